/-
  FragAll (7): the walk.
-/
import Derived.Test.YteiiifonejkjbaaAll12
namespace Go.Proofs.Yteiiifonejkjbaa.Fa
open Go.RowKit Mem Cells Ops Pcs Go.Maps Go.Proofs.Yteiiifonejkjbaa.Open Go.Proofs.Yteiiifonejkjbaa.Bx Go.Proofs.Yteiiifonejkjbaa.Rb Chunk
set_option linter.unusedVariables false
set_option linter.unusedSimpArgs false
attribute [local go_sem] Oper.semAt_some

theorem drop_cons {α : Type} {l : List α} {i : Nat} {x : α} (hx : l[i]? = some x) : l.drop i = x :: l.drop (i + 1) := by
  have h := List.getElem?_eq_some_iff.1 hx
  rw [List.drop_eq_getElem_cons h.1, h.2]
theorem take_at {α : Type} {l : List α} {i : Nat} {x : α} (hx : l[i]? = some x) (hi : i < 20) : (l.take 20)[i]? = some x := by
  rw [List.getElem?_take, if_pos hi, hx]
theorem ba_beq {a b : ByteArray} : (a == b) = true ↔ a = b := by
  cases a; cases b
  simp only [ByteArray.mk.injEq]
  exact beq_iff_eq (α := Array UInt8)
theorem tl_inj {a b : ByteArray} (h : a.toList = b.toList) : a = b := by
  rw [ByteArray.toList_eq, ByteArray.toList_eq] at h
  cases a; cases b
  simp only [ByteArray.mk.injEq]
  exact Array.toList_inj.1 h
theorem kne_s {s s' : Int} {a b : List Int} (h : (s == s') = false) : K s a ≠ K s' b := by
  intro e
  have : s = s' := congrArg Prod.fst e
  simp [this] at h
theorem kne_t {s s' : Int} {a b : List Int} (h : (strOfNums a == strOfNums b) = false) : K s a ≠ K s' b := by
  intro e
  have : strOfNums a = strOfNums b := congrArg Prod.snd e
  rw [this, ba_beq.2 rfl] at h
  cases h
theorem keq {s s' : Int} {a b : List Int} (h1 : s = s') (h2 : (strOfNums a == strOfNums b) = true) : K s a = K s' b := by
  have : strOfNums a = strOfNums b := ba_beq.1 h2
  unfold K
  rw [h1, this]

set_option maxRecDepth 100000 in
set_option maxHeartbeats 16000000 in
theorem all_ (w : World) (v : Value) (al : List C) (hv : ReadsC w v al) (hok : ∀ a ∈ al, a.ok) (first : Int) (hf : isU32 first) (vo : Value) (ol : List Int) (hvo : Reads .u16 w vo ol) (hol : ∀ z ∈ ol, 0 ≤ z ∧ z ≤ 65535) :
    Calls Try.prog 7 #[v, .int .u32 first, vo] w (Chunk.TrueB w) := by
  obtain ⟨W0, hW0⟩ : ∃ W0, w = W0 := ⟨w, rfl⟩
  rw [hW0] at hv hvo ⊢
  have HV0 := Lib.hid hv
  obtain ⟨p, c, rfl, h1, h2, h3⟩ := hv
  obtain ⟨n, hn⟩ : ∃ n, al.length = n := ⟨_, rfl⟩
  rw [hn] at h1 HV0 ⊢
  obtain ⟨po, co, rfl, l1, l2, l3, l4⟩ := hvo
  obtain ⟨no, hno⟩ : ∃ no, ol.length = no := ⟨_, rfl⟩
  rw [hno] at l1 l4 ⊢
  have HN := Lib.hid hn
  have HNO := Lib.hid hno
  have H3 := Lib.hid h3
  have H4 := Lib.hid l4
  have HOK := Lib.hid hok
  have HOL := Lib.hid hol
  have HF := Lib.hid hf
  have hnm : n ≤ 9223372036854775807 := by unfold maxLen at h2; omega
  have hnom : no ≤ 9223372036854775807 := by unfold maxLen at l2; omega
  have hf1 : 0 ≤ first := hf.1
  have hf2 : first ≤ 4294967295 := hf.2
  clear hW0 hn hno h3 l4 h1 h2 l1 l2 l3 hok hol hf
  go_enter Try.func7, Try.ntmps7
  go_upto_region 3 with (first
    | (go_at_call 20; go_must (refine (cut20 W0 _ al HV0.out HOK.out first HF.out).mono ?_; rintro e w1 ⟨v7, ok, rfl, hb1, hq1⟩; have HB1 := Lib.hid hb1; have HQ1 := Lib.hid hq1; clear hb1 hq1))
    | (go_at_call 15; go_must (refine (newBox W0.heap.size _).mono ?_; rintro e w2 ⟨g, b1, b2, rfl, hbx, hb2, hg1, hg2, hg3⟩; have HX2 := Lib.hid hbx; have HBW := Lib.hid hb2; have HB2 := Lib.hid (HB1.out.trans (hb2.mono HB1.out.size)); have HG := Lib.hid (show ∀ k, BX g b1 b2 k → W0.heap.size ≤ k from fun k h => by have := HB1.out.size; rcases h with rfl | rfl | rfl <;> omega); clear hbx hb2 hg1 hg2 hg3)))
  cases ok with
  | false =>
    go_wp2_with (go_at_call 14; go_must (refine (Chunk.answers _).mono ?_; rintro e w9 ⟨rfl, hb9⟩; have HB9 := Lib.hid (HB2.out.trans (hb9.mono HB2.out.size)); have HB2 := HB9; clear hb9))
    go_ret
    exact ⟨rfl, HB9.out⟩
  | true =>
    obtain ⟨out, hcut, hq1⟩ := HQ1.out rfl
    obtain ⟨nx', Ms, U⟩ := cutsF_ok (al.take 20) (Cutd.start first) (fun x hx => HOK.out x (List.mem_of_mem_take hx)) (by rw [List.length_take]; simp; omega) hcut
    rw [List.nil_append] at U
    have HU := Lib.hid U
    obtain ⟨m, hm⟩ : ∃ m, out.length = m := ⟨_, rfl⟩
    have HM := Lib.hid hm
    have hm3 : m ≤ 300 := by rw [← hm, U.pcs]; exact U.good.len
    obtain ⟨p7, c7, hv7, _⟩ := hq1.shape
    rw [hm] at hv7
    subst hv7
    have HQ2 := Lib.hid (hq1.below HBW.out)
    clear HQ1 hcut hq1 U hm HBW
    go_upto_block 0 with (go_at_call 14; go_must (refine (Chunk.answers _).mono ?_; rintro e w3 ⟨rfl, hb3⟩; have HB3 := Lib.hid (HB2.out.trans (hb3.mono HB2.out.size)); have HX3 := Lib.hid (box_below HX2.out hb3); have HQ3 := Lib.hid (HQ2.out.below hb3); clear hb3))
    go_cut [11, 12, 13] from 50 to 82 (fun v11 v12 v13 wx => ∃ (ql : List A), Hid (ql.Perm out) ∧ Hid (OwnQ W0.heap.size wx (.slice p7 m c7) ql) ∧ Hid (Box W0.heap.size wx g b1 b2 s0) ∧ Hid (Below W0.heap.size W0 wx))
    case first =>
      go_upto_region 7 with fail
      go_loopw [11] (fun vi wr => ∃ (i : Nat) (ql : List A), vi = .int .i64 (i : Int) ∧ Hid (i ≤ m) ∧ Hid (ql.Perm out) ∧ Hid (OwnQ W0.heap.size wr (.slice p7 m c7) ql) ∧ Hid (Box W0.heap.size wr g b1 b2 s0) ∧ Hid (Below W0.heap.size W0 wr)) (fun vi _ => m - (intOf vi).toNat)
      case atStart => exact ⟨0, out, rfl, Nat.zero_le _, List.Perm.refl _, HQ3.out, HX3.out, HB3.out⟩
      case round =>
        clear HQ3 HX3 HB3 HQ2 HX2 HB2 HB1
        obtain ⟨i, ql, rfl, HI, HP, HQr, HXr, HBr⟩ := hrel
        by_cases hlt : i < no
        · have hltz : (i : Int) < (no : Int) := by omega
          have hltb : decide ((i : Int) < (no : Int)) = true := decide_eq_true hltz
          by_cases him : i < m
          · have himz : (i : Int) < (m : Int) := by omega
            have himb : decide ((i : Int) < (m : Int)) = true := decide_eq_true himz
            have hqm : ql.length = m := by rw [HP.out.length_eq, HM.out]
            have HQL := Lib.hid hqm
            obtain ⟨g7, c7', e7, _, _, _, _⟩ := HQr.out.block (by rw [hqm]; omega)
            rw [hqm] at e7
            cases e7
            obtain ⟨bo, offo, rfl, hbo, hco⟩ := H4.out (by omega)
            obtain ⟨z, hz⟩ : ∃ z, ol.getD i 0 = z := ⟨_, rfl⟩
            have hcz := hco i hlt
            rw [hz] at hcz
            have hzb : 0 ≤ z ∧ z ≤ 65535 := by
              refine HOL.out z ?_
              rw [← hz, List.getD_eq_getElem?_getD, List.getElem?_eq_getElem (by rw [HNO.out]; exact hlt)]
              exact List.getElem_mem _
            have hz0 : 0 ≤ z := hzb.1
            have hz1 : z ≤ 65535 := hzb.2
            obtain ⟨k, hk, hkm⟩ := fmod_lt z m hz0 (by omega)
            have cz : wr.cell? ⟨bo, offo + i, none⟩ = some (.int .u16 z) := (HBr.out.cell (p := ⟨bo, offo + i, none⟩) hbo).trans hcz
            have hm0 : ¬ (m : Int) = 0 := by omega
            have hnoi : ¬ no ≤ i := by omega
            have hmi : ¬ m ≤ i := by omega
            have hmk : ¬ m ≤ k := by omega
            clear hzb hz hcz hco hqm
            go_upto_region 10 with fail
            obtain ⟨x, hx⟩ : ∃ x, ql[i]? = some x := ⟨ql[i]'(by rw [HQL.out]; exact him), by simp⟩
            obtain ⟨px, mx, hrx, hrwx⟩ := OwnQ.elem HQr.out i x hx
            obtain ⟨xn, hxn⟩ : ∃ xn, x.data.length = xn := ⟨_, rfl⟩
            rw [hxn] at hrx hrwx
            have HRX := Lib.hid hrx
            have HRWX := Lib.hid hrwx
            have HX := Lib.hid hx
            clear hrx hrwx hxn hx
            go_upto_region 11 with (first
              | ((with_reducible refine wpl_loadE rfl 45 (.tmp 70) rfl g7 (i * 7) ?_ (row x (.slice px xn mx)).toArray _ HRX.out Try.underlying45 rfl (by kernel_rfl) ?_); rfl)
              | ((with_reducible refine wpl_allocAt rfl 45 rfl #[.int .u32 0, .int .u16 0, .int .u16 0, .bool false, .bool false, .bool false, .slice none 0 0] (by kernel_rfl) ?_); go_must (intro w3 hat3 hb3 hs3; have HC3 := Lib.hid hb3; clear hb3 hs3))
              | ((with_reducible refine wpl_storeR rfl 45 (.tmp 13) (.tmp 71) rfl rfl wr.heap.size 45 #[.int .u32 0, .int .u16 0, .int .u16 0, .bool false, .bool false, .bool false, .slice none 0 0] (row x (.slice px xn mx)).toArray ?_ ?_ hat3 (by kernel_rfl) ?_ ?_ ?_); rfl; rfl; rfl; (simp [Value.oneCell', row]); go_must (intro w4 hat4 hg4; have HT4 := Lib.hid hat4; have HC4 := Lib.hid (below_grown HC3.out hg4 HC3.out.size (Nat.le_refl _)); clear hat3 hat4 hg4)))
            have HQ4 := Lib.hid (HQr.out.below HC4.out)
            have HX4 := Lib.hid (box_below HXr.out HC4.out)
            have HB4 := Lib.hid (HBr.out.trans (HC4.out.mono HBr.out.size))
            have HRW4 := Lib.hid (Row.below HRWX.out HC4.out)
            obtain ⟨y, hy⟩ : ∃ y, ql[k]? = some y := ⟨ql[k]'(by rw [HQL.out]; exact hkm), by simp⟩
            obtain ⟨py, my, hry, hrwy⟩ := OwnQ.elem HQ4.out k y hy
            obtain ⟨w5, hrun5, hq5, hg5⟩ := storeQ_run HQ4.out (i := i) (by rw [HQL.out]; exact him) y _ hrwy
            obtain ⟨yn, hyn⟩ : ∃ yn, y.data.length = yn := ⟨_, rfl⟩
            rw [hyn] at hry hrun5
            have hne4 : wr.heap.size ≠ g7 := by have := (q_lt HQr.out g7 rfl).2; omega
            obtain ⟨cs7, hc7⟩ := (show ∃ cs, At w4 g7 45 cs from by obtain ⟨zs, _, h2, _⟩ := HQ4.out; exact own_at h2 rfl)
            have HT5 := Lib.hid (HT4.out.kept' hg5 (fun e => hne4 (Option.some.inj e).symm))
            have HX5 := Lib.hid (box_other HX4.out hg5 hc7 (by decide) (by decide))
            have HB5 := Lib.hid (below_grown HB4.out hg5 HB4.out.size (q_lt HQr.out g7 rfl).1)
            have HRW5 := Lib.hid (show Row .u8 5 W0.heap.size w5 _ x.data from (HRW4.out).kept hg5 (.inr (own_ne HRW4.out hc7 (by decide))))
            obtain ⟨w6, hrun6, hq6, hg6⟩ := storeQ_run hq5 (i := k) (by rw [List.length_set, HQL.out]; exact hkm) x _ HRW5.out
            obtain ⟨cs6, hc6⟩ := (show ∃ cs, At w5 g7 45 cs from by obtain ⟨zs, _, h2, _⟩ := hq5; exact own_at h2 rfl)
            have HX6 := Lib.hid (box_other HX5.out hg6 hc6 (by decide) (by decide))
            have HB6 := Lib.hid (below_grown HB5.out hg6 HB5.out.size (q_lt HQr.out g7 rfl).1)
            have HP6 := Lib.hid ((swap_perm HX.out hy).trans HP.out)
            have HQ6 := Lib.hid hq6
            have HRUN5 := Lib.hid hrun5
            have HRUN6 := Lib.hid hrun6
            have HRY := Lib.hid hry
            clear hrun5 hrun6 hq5 hq6 hg5 hg6 hc7 hc6 hne4 hyn hry hrwy hy HC3 HC4 HT4 HQr HXr HBr HQ4 HX4 HB4 HRW4 HRW5 HX5 HB5 cz
            go_wp2_with (first
              | ((with_reducible refine wpl_loadE rfl 45 (.tmp 76) rfl g7 (k * 7) ?_ (row y (.slice py yn my)).toArray _ HRY.out Try.underlying45 rfl (by kernel_rfl) ?_); rfl)
              | ((with_reducible refine wpl_storeV rfl 45 (.tmp 78) (.tmp 77) rfl rfl (.pointer (some ⟨g7, i * 7, none⟩)) (.agg (row y (.slice py yn my)).toArray) w5 ?_ ?_ HRUN5.out ?_); rfl; rfl)
              | ((with_reducible refine wpl_loadAt rfl 45 (.tmp 13) rfl wr.heap.size 45 (row x (.slice px xn mx)).toArray HT5.out _ Try.underlying45 rfl (by kernel_rfl) ?_ ?_); rfl)
              | ((with_reducible refine wpl_storeV rfl 45 (.tmp 82) (.tmp 81) rfl rfl (.pointer (some ⟨g7, k * 7, none⟩)) (.agg (row x (.slice px xn mx)).toArray) w6 ?_ ?_ HRUN6.out ?_); rfl; rfl))
            go_roundw
            case rel => exact ⟨i + 1, (ql.set i y).set k x, by go_num, show i + 1 ≤ m by omega, HP6.out, HQ6.out, HX6.out, HB6.out⟩
            case measure => simp [intOf]; omega
          · have himz : ¬ (i : Int) < (m : Int) := by omega
            have himb : decide ((i : Int) < (m : Int)) = false := decide_eq_false himz
            go_wp2_with fail
            go_meet
            exact ⟨ql, HP, HQr, HXr, HBr⟩
        · have hltz : ¬ (i : Int) < (no : Int) := by omega
          have hltb : decide ((i : Int) < (no : Int)) = false := decide_eq_false hltz
          go_wp2_with fail
          go_meet
          exact ⟨ql, HP, HQr, HXr, HBr⟩
    case rest =>
      clear HQ3 HX3 HB3 HQ2 HX2 HB2 HB1
      obtain ⟨ql, HP, HQ4, HX4, HB4⟩ := hcut
      go_upto_region 15 with fail
      have HQL := Lib.hid (show ql.length = m by rw [HP.out.length_eq, HM.out])
      have HQA := Lib.hid (show ql.Perm (allP Ms) by rw [← HU.out.pcs]; exact HP.out)
      have HMS := Lib.hid (show Ms.length ≤ 20 by rw [HU.out.len, List.length_take]; omega)
      go_loopw [14, 15] (fun vt vi wr => ∃ (i : Nat) (x : S) (idx : List Nat), vi = .int .i64 (i : Int) ∧ Hid (i ≤ m ∧ x.wait.length ≤ i) ∧ Hid (Inv Ms (ql.take i) x idx) ∧ Hid (OwnQ W0.heap.size wr (.slice p7 m c7) ql) ∧ Hid (Box W0.heap.size wr g b1 b2 x) ∧ Hid (OwnG W0.heap.size wr vt (idx.map (toG Ms))) ∧ Hid (Below W0.heap.size W0 wr)) (fun _ vi _ => m - (intOf vi).toNat)
      case atStart => exact ⟨0, s0, [], rfl, ⟨Nat.zero_le _, Nat.zero_le _⟩, (by rw [List.take_zero]; exact Inv.start HU.out.seqs (fun m hm => HU.out.good.ok m hm) : Inv Ms (ql.take 0) s0 []), HQ4.out, HX4.out, OwnG.nil _ _, HB4.out⟩
      case round =>
        clear HQ4 HX4 HB4
        obtain ⟨i, x, idx, rfl, HI, HINV, HQr, HXr, HTr, HBr⟩ := hrel
        by_cases him : i < m
        · have himz : (i : Int) < (m : Int) := by omega
          have himb : decide ((i : Int) < (m : Int)) = true := decide_eq_true himz
          have hmi : ¬ m ≤ i := by omega
          have hqm : ql.length = m := HQL.out
          obtain ⟨g7, c7', e7, _, _, _, _⟩ := HQr.out.block (by rw [hqm]; omega)
          rw [hqm] at e7
          cases e7
          obtain ⟨y, hy⟩ : ∃ y, ql[i]? = some y := ⟨ql[i]'(by rw [hqm]; exact him), by simp⟩
          obtain ⟨py, my, hry, hrwy⟩ := OwnQ.elem HQr.out i y hy
          have hya : y ∈ allP Ms := HQA.out.mem_iff.1 (List.mem_of_getElem? hy)
          have hyo := HU.out.bad y (by rw [HU.out.pcs]; exact hya)
          have hxok : x.ok := by obtain ⟨vs, vw, m1, m2, h⟩ := HXr.out; exact h.ok
          obtain ⟨x', js, hpf, hinv'⟩ := HINV.out.put HU.out.good HU.out.seqs (fun a ha => (HU.out.bad a (by rw [HU.out.pcs]; exact ha)).1) hxok hya (getElem_notin_take (HQA.out.nodup_iff.2 (allP_nodup HU.out.good)) hy)
          rw [← take_more hy] at hinv'
          have PP := Lib.hid (put HXr.out y _ hrwy.reads hyo.2 (by have := HI.out.1; have := HI.out.2; omega) HBr.out.size)
          have HPW := Lib.hid (show x'.wait.length ≤ i + 1 by have := putF_wait x y; rw [hpf] at this; have h2 := HI.out.2; simp only at this; omega)
          unfold PutIs at PP
          rw [hpf] at PP
          obtain ⟨yn, hyn⟩ : ∃ yn, y.data.length = yn := ⟨_, rfl⟩
          rw [hyn] at hry PP
          have HRY := Lib.hid hry
          have HINV' := Lib.hid hinv'
          clear hry hrwy hya hyo hxok hpf hinv' hyn hy hqm
          go_upto_region 20 with (first
            | ((with_reducible refine wpl_loadE rfl 45 (.tmp 92) rfl g7 (i * 7) ?_ (row y (.slice py yn my)).toArray _ HRY.out Try.underlying45 rfl (by kernel_rfl) ?_); rfl)
            | (go_at_call 16; go_must (refine PP.out.mono ?_; rintro e w8 ⟨va, rfl, hva, hx8, hbx8⟩; have HVA8 := Lib.hid hva; have HX8 := Lib.hid hx8; have HQ8 := Lib.hid (q_but HQr.out hbx8 (fun q T cs hat hT => bx_not HXr.out hat (by rcases hT with rfl | rfl <;> decide))); have HT8 := Lib.hid (g_but HTr.out hbx8 (fun q T cs hat hT => bx_not HXr.out hat (by rcases hT with rfl | rfl <;> decide))); have HB8 := Lib.hid (HBr.out.trans (hbx8.below (B := W0.heap.size) HG.out HBr.out.size)); clear hva hx8 hbx8)))
          obtain ⟨vt9, w9, hrun9, ht9, hg9⟩ := run_appG HT8.out HVA8.out HB8.out.size (by have := idx_le HINV'.out.o; have := HMS.out; simp at *; omega)
          have HQ9 := Lib.hid (q_ownG HQ8.out HT8.out hg9)
          have HX9 := Lib.hid (box_ownG HX8.out HT8.out hg9)
          have HB9 : Hid (Below W0.heap.size W0 w9) := HB8.out.grown hg9 HB8.out.size (fun q e => (HT8.out.lt q e).1)
          have HT9 := Lib.hid ht9
          have HRUN9 := Lib.hid hrun9
          clear hrun9 ht9 hg9 HQ8 HX8 HT8 HB8 HVA8 PP HQr HXr HTr HBr
          go_wp2_with ((with_reducible refine wpl_appendV rfl 49 (.tmp 99) (.tmp 100) rfl _ _ vt9 w9 ?_ ?_ HRUN9.out ?_); rfl; rfl)
          go_roundw
          case rel => exact ⟨i + 1, x', idx ++ js, by go_num, ⟨by omega, HPW.out⟩, HINV'.out, HQ9.out, HX9.out, (by rw [List.map_append]; exact HT9.out : OwnG W0.heap.size w9 vt9 ((idx ++ js).map (toG Ms))), HB9.out⟩
          case measure => simp [intOf]; omega
        · have himz : ¬ (i : Int) < (m : Int) := by omega
          have himb : decide ((i : Int) < (m : Int)) = false := decide_eq_false himz
          have hi : i = m := by have := HI.out.1; omega
          have hall : ∀ a ∈ allP Ms, a ∈ ql.take i := by
            intro a ha
            rw [List.take_of_length_le (by rw [HQL.out]; omega)]
            exact HQA.out.mem_iff.2 ha
          have htold := told_of HU.out HINV.out hall
          have HHELD := Lib.hid htold.1
          have HTOLD := Lib.hid htold.2
          clear htold hall
          clear hi
          obtain ⟨tl, htl⟩ : ∃ tl, idx.map (toG Ms) = tl := ⟨_, rfl⟩
          rw [htl] at HTr HTOLD
          obtain ⟨cn, hcn⟩ : ∃ cn, min n 20 = cn := ⟨_, rfl⟩
          have hcn1 : cn ≤ n := by omega
          have hcn2 : cn ≤ 20 := by omega
          have hcl : (al.take 20).length = cn := by rw [List.length_take, HN.out]; omega
          have HCL := Lib.hid hcl
          have HTL := Lib.hid (show tl.length = cn by rw [HTOLD.out.len, hcl])
          obtain ⟨pt, ct, hvt, _⟩ := HTr.out.shape
          rw [HTL.out] at hvt
          subst hvt
          clear htl hcl
          go_upto_if 105 with fail
          go_cut [18] from 104 to 105 (fun v18 wx => v18 = .int .i64 (cn : Int) ∧ Hid (Below wr.heap.size wr wx))
          case first =>
            by_cases hn20 : 20 < n
            · have h20 : (20 : Int) < (n : Int) := by omega
              have h20b : decide ((20 : Int) < (n : Int)) = true := decide_eq_true h20
              have HCE := Lib.hid (show cn = 20 by omega)
              go_wp2_with fail
              go_meet
              exact ⟨by rw [HCE.out]; rfl, Below.refl _ _⟩
            · have h20 : ¬ (20 : Int) < (n : Int) := by omega
              have h20b : decide ((20 : Int) < (n : Int)) = false := decide_eq_false h20
              have HCE := Lib.hid (show cn = n by omega)
              go_wp2_with fail
              go_meet
              exact ⟨by rw [HCE.out], Below.refl _ _⟩
          case rest =>
            obtain ⟨rfl, hbc⟩ := hcut
            have HXc := Lib.hid (box_below HXr.out hbc.out)
            have HTc := Lib.hid (HTr.out.below hbc.out)
            have HBc := Lib.hid (HBr.out.trans (hbc.out.mono HBr.out.size))
            clear HXr HTr HBr HQr hbc hcn
            go_upto_region 27 with (go_at_call 19; go_must (refine (held HXc.out).mono ?_; rintro e w1 ⟨rfl, hb1⟩; rw [HHELD.out]; have HT1 := Lib.hid (HTc.out.below hb1); have HB1 := Lib.hid (HBc.out.trans (hb1.mono HBc.out.size)); clear hb1))
            clear HXc HTc HBc
            have HW1 := Lib.hid HB1.out.size
            go_loopw [19] (fun vs wr => ∃ s : Nat, vs = .int .u16 (s : Int) ∧ Hid (s ≤ 8) ∧ Hid (Below w1.heap.size w1 wr)) (fun vs _ => 8 - (intOf vs).toNat)
            case atStart => exact ⟨0, rfl, Nat.zero_le _, Below.refl _ _⟩
            case round =>
              obtain ⟨s, rfl, HS, HBL⟩ := hrel
              by_cases hs8 : s < 8
              · have hs8z : (s : Int) < 8 := by omega
                have hs8b : decide ((s : Int) < 8) = true := decide_eq_true hs8z
                go_upto_region 31 with fail
                go_loopw [20, 21] (fun vk vi wr => ∃ k i : Nat, vk = .int .i64 (k : Int) ∧ vi = .int .i64 (i : Int) ∧ Hid (i ≤ cn ∧ k ≤ cn) ∧ Hid ((ordC (s : Int) ((al.take 20).drop i)).Sublist ((tl.drop k).map kG)) ∧ Hid (Below w1.heap.size w1 wr)) (fun _ vi _ => cn - (intOf vi).toNat)
                case atStart => exact ⟨0, 0, rfl, rfl, ⟨Nat.zero_le _, Nat.zero_le _⟩, HTOLD.out.ord _, HBL.out⟩
                case round =>
                  clear HBL
                  obtain ⟨k, i, rfl, rfl, HKI, HSUB, HBL⟩ := hrel
                  by_cases hic : i < cn
                  · have hicz : (i : Int) < (cn : Int) := by omega
                    have hicb : decide ((i : Int) < (cn : Int)) = true := decide_eq_true hicz
                    obtain ⟨x, hx⟩ : ∃ x, al[i]? = some x := ⟨al[i]'(by rw [HN.out]; omega), by simp⟩
                    have hni : ¬ n ≤ i := by omega
                    obtain ⟨b, off, d, rfl, hb, hra, hrd⟩ := H3.out i x hx
                    obtain ⟨pd, cd, hd, _⟩ := id hrd
                    subst hd
                    obtain ⟨L, hL⟩ : ∃ L, x.data.length = L := ⟨_, rfl⟩
                    rw [hL] at hra hrd
                    obtain ⟨xs, hxs⟩ : ∃ xs, x.s = xs := ⟨_, rfl⟩
                    obtain ⟨sx, hsx⟩ : ∃ sx, strOfNums x.data = sx := ⟨_, rfl⟩
                    have HXM := Lib.hid hx
                    have HSX := Lib.hid hsx
                    have HXS := Lib.hid hxs
                    have hr0 := hra 0 _ rfl
                    have hr1 := hra 1 _ rfl
                    have hr2 := hra 2 _ rfl
                    rw [Nat.add_zero, hxs] at hr0
                    have HR1 := Lib.hid (And.intro hb (And.intro hr0 (And.intro hr1 (And.intro hr2 hrd))))
                    clear hx hb hra hrd hL hxs hsx hr0 hr1 hr2
                    have HB2 := Lib.hid (HB1.out.trans (HBL.out.mono HW1.out))
                    have c0 := (HB2.out.cell (p := ⟨b, off + i * 4, none⟩) HR1.out.1).trans HR1.out.2.1
                    have c2 := (HB2.out.cell (p := ⟨b, off + i * 4 + 2, none⟩) HR1.out.1).trans HR1.out.2.2.2.1
                    have HDC := Lib.hid (drop_cons (take_at HXM.out (by omega)))
                    by_cases hxs : xs = (s : Int)
                    · subst hxs
                      cases hun : x.un with
                      | true =>
                        rw [hun] at c2
                        have HUN := Lib.hid hun
                        clear hun
                        go_wp2_with fail
                        go_roundw
                        case rel => exact ⟨k, i + 1, rfl, by go_num, ⟨by omega, HKI.out.2⟩, (by have := HSUB.out; rw [HDC.out, ordC_cons, if_neg (by rw [HUN.out]; simp)] at this; exact this : (ordC (s : Int) ((al.take 20).drop (i + 1))).Sublist ((tl.drop k).map kG)), HBL.out⟩
                        case measure => simp [intOf]; omega
                      | false =>
                        rw [hun] at c2
                        have HSUB1 := Lib.hid (show (kC x :: ordC (s : Int) ((al.take 20).drop (i + 1))).Sublist ((tl.drop k).map kG) by have := HSUB.out; rw [HDC.out, ordC_cons, if_pos ⟨HXS.out, hun⟩] at this; exact this)
                        clear hun HSUB
                        go_upto_region 34 with fail
                        go_loopw [20] (fun vk wr => ∃ k : Nat, vk = .int .i64 (k : Int) ∧ Hid (k ≤ cn) ∧ Hid ((kC x :: ordC (s : Int) ((al.take 20).drop (i + 1))).Sublist ((tl.drop k).map kG)) ∧ Hid (Below w1.heap.size w1 wr)) (fun vk _ => cn - (intOf vk).toNat)
                        case atStart => exact ⟨k, rfl, HKI.out.2, HSUB1.out, HBL.out⟩
                        case round =>
                          clear HSUB1 HBL HKI HB2 c0 c2
                          obtain ⟨k, rfl, HKC, HSUB, HBL⟩ := hrel
                          have hkc : k < cn := by
                            rcases Nat.lt_or_ge k cn with h | h
                            · exact h
                            · exfalso
                              have := HSUB.out
                              have e0 : tl.drop k = [] := List.drop_of_length_le (by rw [HTL.out]; exact h)
                              rw [e0] at this
                              have := this.length_le
                              simp at this
                          have hkz : (k : Int) < (cn : Int) := by omega
                          have hkb : decide ((k : Int) < (cn : Int)) = true := decide_eq_true hkz
                          have hxu : (s : Int) ≤ 65535 := by omega
                          obtain ⟨y, hy⟩ : ∃ y, tl[k]? = some y := ⟨tl[k]'(by rw [HTL.out]; exact hkc), by simp⟩
                          have hTr := OwnG.below HT1.out HBL.out
                          obtain ⟨gt, ct', egt, _, _, _, hgl⟩ := hTr.block (by rw [HTL.out]; omega)
                          rw [HTL.out] at egt
                          cases egt
                          obtain ⟨py, my, hry, hrwy⟩ := hTr.elem k y hy
                          obtain ⟨yn, hyn⟩ : ∃ yn, y.data.length = yn := ⟨_, rfl⟩
                          rw [hyn] at hry hrwy
                          obtain ⟨ys, hys⟩ : ∃ ys, y.s = ys := ⟨_, rfl⟩
                          obtain ⟨sy, hsy⟩ : ∃ sy, strOfNums y.data = sy := ⟨_, rfl⟩
                          have hy0 := hry 0 _ rfl
                          have hy1 := hry 1 _ rfl
                          rw [Nat.add_zero, hys] at hy0
                          have HYM := Lib.hid hy
                          have HSY := Lib.hid hsy
                          have HYS := Lib.hid hys
                          have HY0 := Lib.hid hy0
                          have HY1 := Lib.hid hy1
                          have HRY := Lib.hid hrwy
                          have HGW := Lib.hid hgl
                          have HB3 := Lib.hid (HB1.out.trans (HBL.out.mono HW1.out))
                          have HBW := Lib.hid (Nat.lt_of_lt_of_le HR1.out.1 HB3.out.size)
                          have HX0 := Lib.hid ((HB3.out.cell (p := ⟨b, off + i * 4, none⟩) HR1.out.1).trans HR1.out.2.1)
                          have HX1 := Lib.hid ((HB3.out.cell (p := ⟨b, off + i * 4 + 1, none⟩) HR1.out.1).trans HR1.out.2.2.1)
                          have HRX := Lib.hid (HR1.out.2.2.2.2.below HB3.out)
                          have hnk : ¬ cn ≤ k := by omega
                          clear hy hTr hgl hry hrwy hyn hys hsy hy0 hy1
                          have HST := Lib.hid (search_step (by have := HSUB.out; rw [drop_cons HYM.out, List.map_cons] at this; exact this))
                          by_cases hey : ys = (s : Int)
                          · subst hey
                            by_cases het : (sy == sx) = true
                            · have ht1 := het
                              have ht2 : sy.toList = sx.toList := by rw [ba_beq.1 het]
                              go_upto_region 34 with fail
                              refine Mono.wp_region_mono [some 139, some 140, some 141, some 142, some 143, some 144, some 145, some 146, some 147, some 148, some 149, some 150, some 151, some 152, some 153, some 154, some 155, some 156, some 157, some 158, some 159, some 160, some 161, some 162, some 163, some 164, some 165, some 166, some 167] [Mono.isV (.int .i64 (k : Int)), Mono.isV (.slice (some ⟨gt, 0, none⟩) cn ct), Mono.isV (.int .i64 (cn : Int)), Mono.isV (.bool true), Mono.isV (.bool true), Mono.isV (.slice (some ⟨gt, 0, none⟩) cn ct), Mono.isV (.int .i64 (k : Int)), Mono.isV (.pointer (some ⟨gt, k * 2, none⟩)), Mono.isV (.pointer (some ⟨gt, k * 2, none⟩)), Mono.isV (.int .u16 (s : Int)), Mono.isV (.int .u16 (s : Int)), Mono.isV (.bool false), Mono.isV (.bool false), Mono.isV (.slice (some ⟨gt, 0, none⟩) cn ct), Mono.isV (.int .i64 (k : Int)), Mono.isV (.pointer (some ⟨gt, k * 2, none⟩)), Mono.isV (.pointer (some ⟨gt, k * 2 + 1, none⟩)), Mono.isV (.slice py yn my), Mono.isV (.string sy), Mono.isV (.slice (some ⟨b, off, none⟩) n c), Mono.isV (.int .i64 (i : Int)), Mono.isV (.pointer (some ⟨b, off + i * 4, none⟩)), Mono.isV (.pointer (some ⟨b, off + i * 4, none⟩)), Mono.isV (.pointer (some ⟨b, off + i * 4 + 1, none⟩)), Mono.isV (.slice pd L cd), Mono.isV (.string sx), Mono.isV (.bool false), Mono.isV (.bool false), Mono.isV (.bool false)] (by kernel_rfl) (by kernel_rfl) ?_ ?_
                              · simp only [Mono.OpGoals, and_true]
                                refine ⟨?_, ?_, ?_, ?_, ?_, ?_, ?_, ?_, ?_, ?_, ?_, ?_, ?_, ?_, ?_, ?_, ?_, ?_, ?_, ?_, ?_, ?_, ?_, ?_, ?_, ?_, ?_, ?_, ?_⟩
                                · intro a u hbu hsu hdu
                                  have c0 := (hbu.cell (p := ⟨b, off + i * 4, none⟩) HBW.out).trans HX0.out; have c1 := (hbu.cell (p := ⟨b, off + i * 4 + 1, none⟩) HBW.out).trans HX1.out; have g0 := (hbu.cell (p := ⟨gt, k * 2, none⟩) HGW.out).trans HY0.out; have g1 := (hbu.cell (p := ⟨gt, k * 2 + 1, none⟩) HGW.out).trans HY1.out
                                  refine Mono.if_want rfl ?_
                                  exact Mono.ok_move (.tmp 20) rfl (hsu 20 (by decide))
                                · intro a u hbu hsu hdu
                                  have c0 := (hbu.cell (p := ⟨b, off + i * 4, none⟩) HBW.out).trans HX0.out; have c1 := (hbu.cell (p := ⟨b, off + i * 4 + 1, none⟩) HBW.out).trans HX1.out; have g0 := (hbu.cell (p := ⟨gt, k * 2, none⟩) HGW.out).trans HY0.out; have g1 := (hbu.cell (p := ⟨gt, k * 2 + 1, none⟩) HGW.out).trans HY1.out
                                  refine Mono.if_want rfl ?_
                                  exact Mono.ok_move (.tmp 14) rfl (hsu 14 (by decide))
                                · intro a u hbu hsu hdu
                                  have c0 := (hbu.cell (p := ⟨b, off + i * 4, none⟩) HBW.out).trans HX0.out; have c1 := (hbu.cell (p := ⟨b, off + i * 4 + 1, none⟩) HBW.out).trans HX1.out; have g0 := (hbu.cell (p := ⟨gt, k * 2, none⟩) HGW.out).trans HY0.out; have g1 := (hbu.cell (p := ⟨gt, k * 2 + 1, none⟩) HGW.out).trans HY1.out
                                  refine Mono.if_want rfl ?_
                                  have z140 : a.eval (.tmp 140) = .slice (some ⟨gt, 0, none⟩) cn ct := Mono.dep_at hdu (i := 1) (d := 140) rfl rfl rfl
                                  simp [Act.eval] at z140
                                  exact Mono.ok_val (.int .i64 (cn : Int)) (by simp [execOp, z140, go_sem, c0, c1, g0, g1, hkz, hnk, hni, ht1, ht2]) rfl
                                · intro a u hbu hsu hdu
                                  have c0 := (hbu.cell (p := ⟨b, off + i * 4, none⟩) HBW.out).trans HX0.out; have c1 := (hbu.cell (p := ⟨b, off + i * 4 + 1, none⟩) HBW.out).trans HX1.out; have g0 := (hbu.cell (p := ⟨gt, k * 2, none⟩) HGW.out).trans HY0.out; have g1 := (hbu.cell (p := ⟨gt, k * 2 + 1, none⟩) HGW.out).trans HY1.out
                                  refine Mono.if_want rfl ?_
                                  have z139 : a.eval (.tmp 139) = .int .i64 (k : Int) := Mono.dep_at hdu (i := 0) (d := 139) rfl rfl rfl
                                  simp [Act.eval] at z139
                                  have z141 : a.eval (.tmp 141) = .int .i64 (cn : Int) := Mono.dep_at hdu (i := 2) (d := 141) rfl rfl rfl
                                  simp [Act.eval] at z141
                                  exact Mono.ok_val (.bool true) (by simp [execOp, z139, z141, go_sem, c0, c1, g0, g1, hkz, hnk, hni, ht1, ht2]) rfl
                                · intro a u hbu hsu hdu
                                  have c0 := (hbu.cell (p := ⟨b, off + i * 4, none⟩) HBW.out).trans HX0.out; have c1 := (hbu.cell (p := ⟨b, off + i * 4 + 1, none⟩) HBW.out).trans HX1.out; have g0 := (hbu.cell (p := ⟨gt, k * 2, none⟩) HGW.out).trans HY0.out; have g1 := (hbu.cell (p := ⟨gt, k * 2 + 1, none⟩) HGW.out).trans HY1.out
                                  refine Mono.if_want rfl ?_
                                  exact Mono.ok_move (.tmp 142) rfl (Mono.dep_at hdu (i := 3) (d := 142) rfl rfl rfl)
                                · intro a u hbu hsu hdu
                                  have c0 := (hbu.cell (p := ⟨b, off + i * 4, none⟩) HBW.out).trans HX0.out; have c1 := (hbu.cell (p := ⟨b, off + i * 4 + 1, none⟩) HBW.out).trans HX1.out; have g0 := (hbu.cell (p := ⟨gt, k * 2, none⟩) HGW.out).trans HY0.out; have g1 := (hbu.cell (p := ⟨gt, k * 2 + 1, none⟩) HGW.out).trans HY1.out
                                  refine Mono.if_want (Mono.want_at (c := true) rfl rfl (Mono.dep_at hdu (i := 4) (d := 143) rfl rfl rfl) rfl) ?_
                                  exact Mono.ok_move (.tmp 14) rfl (hsu 14 (by decide))
                                · intro a u hbu hsu hdu
                                  have c0 := (hbu.cell (p := ⟨b, off + i * 4, none⟩) HBW.out).trans HX0.out; have c1 := (hbu.cell (p := ⟨b, off + i * 4 + 1, none⟩) HBW.out).trans HX1.out; have g0 := (hbu.cell (p := ⟨gt, k * 2, none⟩) HGW.out).trans HY0.out; have g1 := (hbu.cell (p := ⟨gt, k * 2 + 1, none⟩) HGW.out).trans HY1.out
                                  refine Mono.if_want (Mono.want_at (c := true) rfl rfl (Mono.dep_at hdu (i := 4) (d := 143) rfl rfl rfl) rfl) ?_
                                  exact Mono.ok_move (.tmp 20) rfl (hsu 20 (by decide))
                                · intro a u hbu hsu hdu
                                  have c0 := (hbu.cell (p := ⟨b, off + i * 4, none⟩) HBW.out).trans HX0.out; have c1 := (hbu.cell (p := ⟨b, off + i * 4 + 1, none⟩) HBW.out).trans HX1.out; have g0 := (hbu.cell (p := ⟨gt, k * 2, none⟩) HGW.out).trans HY0.out; have g1 := (hbu.cell (p := ⟨gt, k * 2 + 1, none⟩) HGW.out).trans HY1.out
                                  refine Mono.if_want (Mono.want_at (c := true) rfl rfl (Mono.dep_at hdu (i := 4) (d := 143) rfl rfl rfl) rfl) ?_
                                  have z144 : a.eval (.tmp 144) = .slice (some ⟨gt, 0, none⟩) cn ct := Mono.dep_at hdu (i := 5) (d := 144) rfl rfl rfl
                                  simp [Act.eval] at z144
                                  have z145 : a.eval (.tmp 145) = .int .i64 (k : Int) := Mono.dep_at hdu (i := 6) (d := 145) rfl rfl rfl
                                  simp [Act.eval] at z145
                                  exact Mono.ok_val (.pointer (some ⟨gt, k * 2, none⟩)) (by simp [execOp, z144, z145, go_sem, c0, c1, g0, g1, hkz, hnk, hni, ht1, ht2]) rfl
                                · intro a u hbu hsu hdu
                                  have c0 := (hbu.cell (p := ⟨b, off + i * 4, none⟩) HBW.out).trans HX0.out; have c1 := (hbu.cell (p := ⟨b, off + i * 4 + 1, none⟩) HBW.out).trans HX1.out; have g0 := (hbu.cell (p := ⟨gt, k * 2, none⟩) HGW.out).trans HY0.out; have g1 := (hbu.cell (p := ⟨gt, k * 2 + 1, none⟩) HGW.out).trans HY1.out
                                  refine Mono.if_want (Mono.want_at (c := true) rfl rfl (Mono.dep_at hdu (i := 4) (d := 143) rfl rfl rfl) rfl) ?_
                                  have z146 : a.eval (.tmp 146) = .pointer (some ⟨gt, k * 2, none⟩) := Mono.dep_at hdu (i := 7) (d := 146) rfl rfl rfl
                                  simp [Act.eval] at z146
                                  exact Mono.ok_val (.pointer (some ⟨gt, k * 2, none⟩)) (by simp [execOp, z146, go_sem, c0, c1, g0, g1, hkz, hnk, hni, ht1, ht2]) rfl
                                · intro a u hbu hsu hdu
                                  have c0 := (hbu.cell (p := ⟨b, off + i * 4, none⟩) HBW.out).trans HX0.out; have c1 := (hbu.cell (p := ⟨b, off + i * 4 + 1, none⟩) HBW.out).trans HX1.out; have g0 := (hbu.cell (p := ⟨gt, k * 2, none⟩) HGW.out).trans HY0.out; have g1 := (hbu.cell (p := ⟨gt, k * 2 + 1, none⟩) HGW.out).trans HY1.out
                                  refine Mono.if_want (Mono.want_at (c := true) rfl rfl (Mono.dep_at hdu (i := 4) (d := 143) rfl rfl rfl) rfl) ?_
                                  have z147 : a.eval (.tmp 147) = .pointer (some ⟨gt, k * 2, none⟩) := Mono.dep_at hdu (i := 8) (d := 147) rfl rfl rfl
                                  simp [Act.eval] at z147
                                  exact Mono.ok_val (.int .u16 (s : Int)) (by simp [execOp, z147, go_sem, c0, c1, g0, g1, hkz, hnk, hni, ht1, ht2]) rfl
                                · intro a u hbu hsu hdu
                                  have c0 := (hbu.cell (p := ⟨b, off + i * 4, none⟩) HBW.out).trans HX0.out; have c1 := (hbu.cell (p := ⟨b, off + i * 4 + 1, none⟩) HBW.out).trans HX1.out; have g0 := (hbu.cell (p := ⟨gt, k * 2, none⟩) HGW.out).trans HY0.out; have g1 := (hbu.cell (p := ⟨gt, k * 2 + 1, none⟩) HGW.out).trans HY1.out
                                  refine Mono.if_want (Mono.want_at (c := true) rfl rfl (Mono.dep_at hdu (i := 4) (d := 143) rfl rfl rfl) rfl) ?_
                                  exact Mono.ok_move (.tmp 19) rfl (hsu 19 (by decide))
                                · intro a u hbu hsu hdu
                                  have c0 := (hbu.cell (p := ⟨b, off + i * 4, none⟩) HBW.out).trans HX0.out; have c1 := (hbu.cell (p := ⟨b, off + i * 4 + 1, none⟩) HBW.out).trans HX1.out; have g0 := (hbu.cell (p := ⟨gt, k * 2, none⟩) HGW.out).trans HY0.out; have g1 := (hbu.cell (p := ⟨gt, k * 2 + 1, none⟩) HGW.out).trans HY1.out
                                  refine Mono.if_want (Mono.want_at (c := true) rfl rfl (Mono.dep_at hdu (i := 4) (d := 143) rfl rfl rfl) rfl) ?_
                                  have z148 : a.eval (.tmp 148) = .int .u16 (s : Int) := Mono.dep_at hdu (i := 9) (d := 148) rfl rfl rfl
                                  simp [Act.eval] at z148
                                  have z149 : a.eval (.tmp 149) = .int .u16 (s : Int) := Mono.dep_at hdu (i := 10) (d := 149) rfl rfl rfl
                                  simp [Act.eval] at z149
                                  exact Mono.ok_val (.bool false) (by simp [execOp, z148, z149, go_sem, c0, c1, g0, g1, hkz, hnk, hni, ht1, ht2]) rfl
                                · intro a u hbu hsu hdu
                                  have c0 := (hbu.cell (p := ⟨b, off + i * 4, none⟩) HBW.out).trans HX0.out; have c1 := (hbu.cell (p := ⟨b, off + i * 4 + 1, none⟩) HBW.out).trans HX1.out; have g0 := (hbu.cell (p := ⟨gt, k * 2, none⟩) HGW.out).trans HY0.out; have g1 := (hbu.cell (p := ⟨gt, k * 2 + 1, none⟩) HGW.out).trans HY1.out
                                  refine Mono.if_want (Mono.want_at (c := true) rfl rfl (Mono.dep_at hdu (i := 4) (d := 143) rfl rfl rfl) rfl) ?_
                                  exact Mono.ok_move (.tmp 150) rfl (Mono.dep_at hdu (i := 11) (d := 150) rfl rfl rfl)
                                · intro a u hbu hsu hdu
                                  have c0 := (hbu.cell (p := ⟨b, off + i * 4, none⟩) HBW.out).trans HX0.out; have c1 := (hbu.cell (p := ⟨b, off + i * 4 + 1, none⟩) HBW.out).trans HX1.out; have g0 := (hbu.cell (p := ⟨gt, k * 2, none⟩) HGW.out).trans HY0.out; have g1 := (hbu.cell (p := ⟨gt, k * 2 + 1, none⟩) HGW.out).trans HY1.out
                                  refine Mono.if_want (Mono.want_at (c := false) rfl rfl (Mono.dep_at hdu (i := 12) (d := 151) rfl rfl rfl) rfl) ?_
                                  exact Mono.ok_move (.tmp 14) rfl (hsu 14 (by decide))
                                · intro a u hbu hsu hdu
                                  have c0 := (hbu.cell (p := ⟨b, off + i * 4, none⟩) HBW.out).trans HX0.out; have c1 := (hbu.cell (p := ⟨b, off + i * 4 + 1, none⟩) HBW.out).trans HX1.out; have g0 := (hbu.cell (p := ⟨gt, k * 2, none⟩) HGW.out).trans HY0.out; have g1 := (hbu.cell (p := ⟨gt, k * 2 + 1, none⟩) HGW.out).trans HY1.out
                                  refine Mono.if_want (Mono.want_at (c := false) rfl rfl (Mono.dep_at hdu (i := 12) (d := 151) rfl rfl rfl) rfl) ?_
                                  exact Mono.ok_move (.tmp 20) rfl (hsu 20 (by decide))
                                · intro a u hbu hsu hdu
                                  have c0 := (hbu.cell (p := ⟨b, off + i * 4, none⟩) HBW.out).trans HX0.out; have c1 := (hbu.cell (p := ⟨b, off + i * 4 + 1, none⟩) HBW.out).trans HX1.out; have g0 := (hbu.cell (p := ⟨gt, k * 2, none⟩) HGW.out).trans HY0.out; have g1 := (hbu.cell (p := ⟨gt, k * 2 + 1, none⟩) HGW.out).trans HY1.out
                                  refine Mono.if_want (Mono.want_at (c := false) rfl rfl (Mono.dep_at hdu (i := 12) (d := 151) rfl rfl rfl) rfl) ?_
                                  have z152 : a.eval (.tmp 152) = .slice (some ⟨gt, 0, none⟩) cn ct := Mono.dep_at hdu (i := 13) (d := 152) rfl rfl rfl
                                  simp [Act.eval] at z152
                                  have z153 : a.eval (.tmp 153) = .int .i64 (k : Int) := Mono.dep_at hdu (i := 14) (d := 153) rfl rfl rfl
                                  simp [Act.eval] at z153
                                  exact Mono.ok_val (.pointer (some ⟨gt, k * 2, none⟩)) (by simp [execOp, z152, z153, go_sem, c0, c1, g0, g1, hkz, hnk, hni, ht1, ht2]) rfl
                                · intro a u hbu hsu hdu
                                  have c0 := (hbu.cell (p := ⟨b, off + i * 4, none⟩) HBW.out).trans HX0.out; have c1 := (hbu.cell (p := ⟨b, off + i * 4 + 1, none⟩) HBW.out).trans HX1.out; have g0 := (hbu.cell (p := ⟨gt, k * 2, none⟩) HGW.out).trans HY0.out; have g1 := (hbu.cell (p := ⟨gt, k * 2 + 1, none⟩) HGW.out).trans HY1.out
                                  refine Mono.if_want (Mono.want_at (c := false) rfl rfl (Mono.dep_at hdu (i := 12) (d := 151) rfl rfl rfl) rfl) ?_
                                  have z154 : a.eval (.tmp 154) = .pointer (some ⟨gt, k * 2, none⟩) := Mono.dep_at hdu (i := 15) (d := 154) rfl rfl rfl
                                  simp [Act.eval] at z154
                                  exact Mono.ok_val (.pointer (some ⟨gt, k * 2 + 1, none⟩)) (by simp [execOp, z154, go_sem, c0, c1, g0, g1, hkz, hnk, hni, ht1, ht2]) rfl
                                · intro a u hbu hsu hdu
                                  have c0 := (hbu.cell (p := ⟨b, off + i * 4, none⟩) HBW.out).trans HX0.out; have c1 := (hbu.cell (p := ⟨b, off + i * 4 + 1, none⟩) HBW.out).trans HX1.out; have g0 := (hbu.cell (p := ⟨gt, k * 2, none⟩) HGW.out).trans HY0.out; have g1 := (hbu.cell (p := ⟨gt, k * 2 + 1, none⟩) HGW.out).trans HY1.out
                                  refine Mono.if_want (Mono.want_at (c := false) rfl rfl (Mono.dep_at hdu (i := 12) (d := 151) rfl rfl rfl) rfl) ?_
                                  have z155 : a.eval (.tmp 155) = .pointer (some ⟨gt, k * 2 + 1, none⟩) := Mono.dep_at hdu (i := 16) (d := 155) rfl rfl rfl
                                  simp [Act.eval] at z155
                                  exact Mono.ok_val (.slice py yn my) (by simp [execOp, z155, go_sem, c0, c1, g0, g1, hkz, hnk, hni, ht1, ht2]) rfl
                                · intro a u hbu hsu hdu
                                  have c0 := (hbu.cell (p := ⟨b, off + i * 4, none⟩) HBW.out).trans HX0.out; have c1 := (hbu.cell (p := ⟨b, off + i * 4 + 1, none⟩) HBW.out).trans HX1.out; have g0 := (hbu.cell (p := ⟨gt, k * 2, none⟩) HGW.out).trans HY0.out; have g1 := (hbu.cell (p := ⟨gt, k * 2 + 1, none⟩) HGW.out).trans HY1.out
                                  refine Mono.if_want (Mono.want_at (c := false) rfl rfl (Mono.dep_at hdu (i := 12) (d := 151) rfl rfl rfl) rfl) ?_
                                  have z156 : a.eval (.tmp 156) = .slice py yn my := Mono.dep_at hdu (i := 17) (d := 156) rfl rfl rfl
                                  exact Mono.ok_conv 30 9 (.tmp 156) rfl _ (by rw [z156, ← HSY.out]; exact Chunk.string30 (Row.below HRY.out hbu).reads) rfl
                                · intro a u hbu hsu hdu
                                  have c0 := (hbu.cell (p := ⟨b, off + i * 4, none⟩) HBW.out).trans HX0.out; have c1 := (hbu.cell (p := ⟨b, off + i * 4 + 1, none⟩) HBW.out).trans HX1.out; have g0 := (hbu.cell (p := ⟨gt, k * 2, none⟩) HGW.out).trans HY0.out; have g1 := (hbu.cell (p := ⟨gt, k * 2 + 1, none⟩) HGW.out).trans HY1.out
                                  refine Mono.if_want (Mono.want_at (c := false) rfl rfl (Mono.dep_at hdu (i := 12) (d := 151) rfl rfl rfl) rfl) ?_
                                  exact Mono.ok_move (.tmp 0) rfl (hsu 0 (by decide))
                                · intro a u hbu hsu hdu
                                  have c0 := (hbu.cell (p := ⟨b, off + i * 4, none⟩) HBW.out).trans HX0.out; have c1 := (hbu.cell (p := ⟨b, off + i * 4 + 1, none⟩) HBW.out).trans HX1.out; have g0 := (hbu.cell (p := ⟨gt, k * 2, none⟩) HGW.out).trans HY0.out; have g1 := (hbu.cell (p := ⟨gt, k * 2 + 1, none⟩) HGW.out).trans HY1.out
                                  refine Mono.if_want (Mono.want_at (c := false) rfl rfl (Mono.dep_at hdu (i := 12) (d := 151) rfl rfl rfl) rfl) ?_
                                  exact Mono.ok_move (.tmp 21) rfl (hsu 21 (by decide))
                                · intro a u hbu hsu hdu
                                  have c0 := (hbu.cell (p := ⟨b, off + i * 4, none⟩) HBW.out).trans HX0.out; have c1 := (hbu.cell (p := ⟨b, off + i * 4 + 1, none⟩) HBW.out).trans HX1.out; have g0 := (hbu.cell (p := ⟨gt, k * 2, none⟩) HGW.out).trans HY0.out; have g1 := (hbu.cell (p := ⟨gt, k * 2 + 1, none⟩) HGW.out).trans HY1.out
                                  refine Mono.if_want (Mono.want_at (c := false) rfl rfl (Mono.dep_at hdu (i := 12) (d := 151) rfl rfl rfl) rfl) ?_
                                  have z158 : a.eval (.tmp 158) = .slice (some ⟨b, off, none⟩) n c := Mono.dep_at hdu (i := 19) (d := 158) rfl rfl rfl
                                  simp [Act.eval] at z158
                                  have z159 : a.eval (.tmp 159) = .int .i64 (i : Int) := Mono.dep_at hdu (i := 20) (d := 159) rfl rfl rfl
                                  simp [Act.eval] at z159
                                  exact Mono.ok_val (.pointer (some ⟨b, off + i * 4, none⟩)) (by simp [execOp, z158, z159, go_sem, c0, c1, g0, g1, hkz, hnk, hni, ht1, ht2]) rfl
                                · intro a u hbu hsu hdu
                                  have c0 := (hbu.cell (p := ⟨b, off + i * 4, none⟩) HBW.out).trans HX0.out; have c1 := (hbu.cell (p := ⟨b, off + i * 4 + 1, none⟩) HBW.out).trans HX1.out; have g0 := (hbu.cell (p := ⟨gt, k * 2, none⟩) HGW.out).trans HY0.out; have g1 := (hbu.cell (p := ⟨gt, k * 2 + 1, none⟩) HGW.out).trans HY1.out
                                  refine Mono.if_want (Mono.want_at (c := false) rfl rfl (Mono.dep_at hdu (i := 12) (d := 151) rfl rfl rfl) rfl) ?_
                                  have z160 : a.eval (.tmp 160) = .pointer (some ⟨b, off + i * 4, none⟩) := Mono.dep_at hdu (i := 21) (d := 160) rfl rfl rfl
                                  simp [Act.eval] at z160
                                  exact Mono.ok_val (.pointer (some ⟨b, off + i * 4, none⟩)) (by simp [execOp, z160, go_sem, c0, c1, g0, g1, hkz, hnk, hni, ht1, ht2]) rfl
                                · intro a u hbu hsu hdu
                                  have c0 := (hbu.cell (p := ⟨b, off + i * 4, none⟩) HBW.out).trans HX0.out; have c1 := (hbu.cell (p := ⟨b, off + i * 4 + 1, none⟩) HBW.out).trans HX1.out; have g0 := (hbu.cell (p := ⟨gt, k * 2, none⟩) HGW.out).trans HY0.out; have g1 := (hbu.cell (p := ⟨gt, k * 2 + 1, none⟩) HGW.out).trans HY1.out
                                  refine Mono.if_want (Mono.want_at (c := false) rfl rfl (Mono.dep_at hdu (i := 12) (d := 151) rfl rfl rfl) rfl) ?_
                                  have z161 : a.eval (.tmp 161) = .pointer (some ⟨b, off + i * 4, none⟩) := Mono.dep_at hdu (i := 22) (d := 161) rfl rfl rfl
                                  simp [Act.eval] at z161
                                  exact Mono.ok_val (.pointer (some ⟨b, off + i * 4 + 1, none⟩)) (by simp [execOp, z161, go_sem, c0, c1, g0, g1, hkz, hnk, hni, ht1, ht2]) rfl
                                · intro a u hbu hsu hdu
                                  have c0 := (hbu.cell (p := ⟨b, off + i * 4, none⟩) HBW.out).trans HX0.out; have c1 := (hbu.cell (p := ⟨b, off + i * 4 + 1, none⟩) HBW.out).trans HX1.out; have g0 := (hbu.cell (p := ⟨gt, k * 2, none⟩) HGW.out).trans HY0.out; have g1 := (hbu.cell (p := ⟨gt, k * 2 + 1, none⟩) HGW.out).trans HY1.out
                                  refine Mono.if_want (Mono.want_at (c := false) rfl rfl (Mono.dep_at hdu (i := 12) (d := 151) rfl rfl rfl) rfl) ?_
                                  have z162 : a.eval (.tmp 162) = .pointer (some ⟨b, off + i * 4 + 1, none⟩) := Mono.dep_at hdu (i := 23) (d := 162) rfl rfl rfl
                                  simp [Act.eval] at z162
                                  exact Mono.ok_val (.slice pd L cd) (by simp [execOp, z162, go_sem, c0, c1, g0, g1, hkz, hnk, hni, ht1, ht2]) rfl
                                · intro a u hbu hsu hdu
                                  have c0 := (hbu.cell (p := ⟨b, off + i * 4, none⟩) HBW.out).trans HX0.out; have c1 := (hbu.cell (p := ⟨b, off + i * 4 + 1, none⟩) HBW.out).trans HX1.out; have g0 := (hbu.cell (p := ⟨gt, k * 2, none⟩) HGW.out).trans HY0.out; have g1 := (hbu.cell (p := ⟨gt, k * 2 + 1, none⟩) HGW.out).trans HY1.out
                                  refine Mono.if_want (Mono.want_at (c := false) rfl rfl (Mono.dep_at hdu (i := 12) (d := 151) rfl rfl rfl) rfl) ?_
                                  have z163 : a.eval (.tmp 163) = .slice pd L cd := Mono.dep_at hdu (i := 24) (d := 163) rfl rfl rfl
                                  exact Mono.ok_conv 30 9 (.tmp 163) rfl _ (by rw [z163, ← HSX.out]; exact Chunk.string30 (HRX.out.below hbu)) rfl
                                · intro a u hbu hsu hdu
                                  have c0 := (hbu.cell (p := ⟨b, off + i * 4, none⟩) HBW.out).trans HX0.out; have c1 := (hbu.cell (p := ⟨b, off + i * 4 + 1, none⟩) HBW.out).trans HX1.out; have g0 := (hbu.cell (p := ⟨gt, k * 2, none⟩) HGW.out).trans HY0.out; have g1 := (hbu.cell (p := ⟨gt, k * 2 + 1, none⟩) HGW.out).trans HY1.out
                                  refine Mono.if_want (Mono.want_at (c := false) rfl rfl (Mono.dep_at hdu (i := 12) (d := 151) rfl rfl rfl) rfl) ?_
                                  have z157 : a.eval (.tmp 157) = .string sy := Mono.dep_at hdu (i := 18) (d := 157) rfl rfl rfl
                                  simp [Act.eval] at z157
                                  have z164 : a.eval (.tmp 164) = .string sx := Mono.dep_at hdu (i := 25) (d := 164) rfl rfl rfl
                                  simp [Act.eval] at z164
                                  exact Mono.ok_val (.bool false) (by simp [execOp, z157, z164, go_sem, c0, c1, g0, g1, hkz, hnk, hni, ht1, ht2]) rfl
                                · intro a u hbu hsu hdu
                                  have c0 := (hbu.cell (p := ⟨b, off + i * 4, none⟩) HBW.out).trans HX0.out; have c1 := (hbu.cell (p := ⟨b, off + i * 4 + 1, none⟩) HBW.out).trans HX1.out; have g0 := (hbu.cell (p := ⟨gt, k * 2, none⟩) HGW.out).trans HY0.out; have g1 := (hbu.cell (p := ⟨gt, k * 2 + 1, none⟩) HGW.out).trans HY1.out
                                  refine Mono.if_want (Mono.want_at (c := true) rfl rfl (Mono.dep_at hdu (i := 4) (d := 143) rfl rfl rfl) rfl) ?_
                                  have z151 : a.eval (.tmp 151) = .bool false := Mono.dep_at hdu (i := 12) (d := 151) rfl rfl rfl
                                  simp [Act.eval] at z151
                                  have z165 : a.eval (.tmp 165) = .bool false := Mono.dep_at hdu (i := 26) (d := 165) rfl rfl rfl
                                  simp [Act.eval] at z165
                                  exact Mono.ok_val (.bool false) (by simp [execOp, z151, z165, go_sem, c0, c1, g0, g1, hkz, hnk, hni, ht1, ht2]) rfl
                                · intro a u hbu hsu hdu
                                  have c0 := (hbu.cell (p := ⟨b, off + i * 4, none⟩) HBW.out).trans HX0.out; have c1 := (hbu.cell (p := ⟨b, off + i * 4 + 1, none⟩) HBW.out).trans HX1.out; have g0 := (hbu.cell (p := ⟨gt, k * 2, none⟩) HGW.out).trans HY0.out; have g1 := (hbu.cell (p := ⟨gt, k * 2 + 1, none⟩) HGW.out).trans HY1.out
                                  refine Mono.if_want rfl ?_
                                  have z143 : a.eval (.tmp 143) = .bool true := Mono.dep_at hdu (i := 4) (d := 143) rfl rfl rfl
                                  simp [Act.eval] at z143
                                  have z166 : a.eval (.tmp 166) = .bool false := Mono.dep_at hdu (i := 27) (d := 166) rfl rfl rfl
                                  simp [Act.eval] at z166
                                  exact Mono.ok_val (.bool false) (by simp [execOp, z143, z166, go_sem, c0, c1, g0, g1, hkz, hnk, hni, ht1, ht2]) rfl
                              intro u hu
                              simp only [Mono.Fin]
                              rintro _ rfl _ rfl _ rfl _ rfl _ rfl _ rfl _ rfl _ rfl _ rfl _ rfl _ rfl _ rfl _ rfl _ rfl _ rfl _ rfl _ rfl _ rfl _ rfl _ rfl _ rfl _ rfl _ rfl _ rfl _ rfl _ rfl _ rfl _ rfl _ rfl
                              have HB4 := Lib.hid (HBL.out.trans (hu.mono HBL.out.size))
                              clear hu
                              simp [Act.put]
                              have hke : ¬ (k : Int) = (cn : Int) := by omega
                              have hkf : ((k : Int) == (cn : Int)) = false := by simpa using hke
                              have HKK := Lib.hid (show kC x = kG y from keq (by rw [HXS.out, HYS.out]) (by rw [HSX.out, HSY.out]; exact ba_beq.2 (ba_beq.1 het).symm))
                              clear ht1 ht2
                              go_wp2_with fail
                              go_roundw
                              case rel => exact ⟨k + 1, i + 1, by go_num, by go_num, ⟨by omega, by omega⟩, HST.out.1 HKK.out, HB4.out⟩
                              case measure => simp [intOf]; omega
                            · have ht1 : (sy == sx) = false := by simpa using het
                              have ht2 : ¬ sy.toList = sx.toList := fun e => het (ba_beq.2 (tl_inj e))
                              go_upto_region 34 with fail
                              refine Mono.wp_region_mono [some 139, some 140, some 141, some 142, some 143, some 144, some 145, some 146, some 147, some 148, some 149, some 150, some 151, some 152, some 153, some 154, some 155, some 156, some 157, some 158, some 159, some 160, some 161, some 162, some 163, some 164, some 165, some 166, some 167] [Mono.isV (.int .i64 (k : Int)), Mono.isV (.slice (some ⟨gt, 0, none⟩) cn ct), Mono.isV (.int .i64 (cn : Int)), Mono.isV (.bool true), Mono.isV (.bool true), Mono.isV (.slice (some ⟨gt, 0, none⟩) cn ct), Mono.isV (.int .i64 (k : Int)), Mono.isV (.pointer (some ⟨gt, k * 2, none⟩)), Mono.isV (.pointer (some ⟨gt, k * 2, none⟩)), Mono.isV (.int .u16 (s : Int)), Mono.isV (.int .u16 (s : Int)), Mono.isV (.bool false), Mono.isV (.bool false), Mono.isV (.slice (some ⟨gt, 0, none⟩) cn ct), Mono.isV (.int .i64 (k : Int)), Mono.isV (.pointer (some ⟨gt, k * 2, none⟩)), Mono.isV (.pointer (some ⟨gt, k * 2 + 1, none⟩)), Mono.isV (.slice py yn my), Mono.isV (.string sy), Mono.isV (.slice (some ⟨b, off, none⟩) n c), Mono.isV (.int .i64 (i : Int)), Mono.isV (.pointer (some ⟨b, off + i * 4, none⟩)), Mono.isV (.pointer (some ⟨b, off + i * 4, none⟩)), Mono.isV (.pointer (some ⟨b, off + i * 4 + 1, none⟩)), Mono.isV (.slice pd L cd), Mono.isV (.string sx), Mono.isV (.bool true), Mono.isV (.bool true), Mono.isV (.bool true)] (by kernel_rfl) (by kernel_rfl) ?_ ?_
                              · simp only [Mono.OpGoals, and_true]
                                refine ⟨?_, ?_, ?_, ?_, ?_, ?_, ?_, ?_, ?_, ?_, ?_, ?_, ?_, ?_, ?_, ?_, ?_, ?_, ?_, ?_, ?_, ?_, ?_, ?_, ?_, ?_, ?_, ?_, ?_⟩
                                · intro a u hbu hsu hdu
                                  have c0 := (hbu.cell (p := ⟨b, off + i * 4, none⟩) HBW.out).trans HX0.out; have c1 := (hbu.cell (p := ⟨b, off + i * 4 + 1, none⟩) HBW.out).trans HX1.out; have g0 := (hbu.cell (p := ⟨gt, k * 2, none⟩) HGW.out).trans HY0.out; have g1 := (hbu.cell (p := ⟨gt, k * 2 + 1, none⟩) HGW.out).trans HY1.out
                                  refine Mono.if_want rfl ?_
                                  exact Mono.ok_move (.tmp 20) rfl (hsu 20 (by decide))
                                · intro a u hbu hsu hdu
                                  have c0 := (hbu.cell (p := ⟨b, off + i * 4, none⟩) HBW.out).trans HX0.out; have c1 := (hbu.cell (p := ⟨b, off + i * 4 + 1, none⟩) HBW.out).trans HX1.out; have g0 := (hbu.cell (p := ⟨gt, k * 2, none⟩) HGW.out).trans HY0.out; have g1 := (hbu.cell (p := ⟨gt, k * 2 + 1, none⟩) HGW.out).trans HY1.out
                                  refine Mono.if_want rfl ?_
                                  exact Mono.ok_move (.tmp 14) rfl (hsu 14 (by decide))
                                · intro a u hbu hsu hdu
                                  have c0 := (hbu.cell (p := ⟨b, off + i * 4, none⟩) HBW.out).trans HX0.out; have c1 := (hbu.cell (p := ⟨b, off + i * 4 + 1, none⟩) HBW.out).trans HX1.out; have g0 := (hbu.cell (p := ⟨gt, k * 2, none⟩) HGW.out).trans HY0.out; have g1 := (hbu.cell (p := ⟨gt, k * 2 + 1, none⟩) HGW.out).trans HY1.out
                                  refine Mono.if_want rfl ?_
                                  have z140 : a.eval (.tmp 140) = .slice (some ⟨gt, 0, none⟩) cn ct := Mono.dep_at hdu (i := 1) (d := 140) rfl rfl rfl
                                  simp [Act.eval] at z140
                                  exact Mono.ok_val (.int .i64 (cn : Int)) (by simp [execOp, z140, go_sem, c0, c1, g0, g1, hkz, hnk, hni, ht1, ht2]) rfl
                                · intro a u hbu hsu hdu
                                  have c0 := (hbu.cell (p := ⟨b, off + i * 4, none⟩) HBW.out).trans HX0.out; have c1 := (hbu.cell (p := ⟨b, off + i * 4 + 1, none⟩) HBW.out).trans HX1.out; have g0 := (hbu.cell (p := ⟨gt, k * 2, none⟩) HGW.out).trans HY0.out; have g1 := (hbu.cell (p := ⟨gt, k * 2 + 1, none⟩) HGW.out).trans HY1.out
                                  refine Mono.if_want rfl ?_
                                  have z139 : a.eval (.tmp 139) = .int .i64 (k : Int) := Mono.dep_at hdu (i := 0) (d := 139) rfl rfl rfl
                                  simp [Act.eval] at z139
                                  have z141 : a.eval (.tmp 141) = .int .i64 (cn : Int) := Mono.dep_at hdu (i := 2) (d := 141) rfl rfl rfl
                                  simp [Act.eval] at z141
                                  exact Mono.ok_val (.bool true) (by simp [execOp, z139, z141, go_sem, c0, c1, g0, g1, hkz, hnk, hni, ht1, ht2]) rfl
                                · intro a u hbu hsu hdu
                                  have c0 := (hbu.cell (p := ⟨b, off + i * 4, none⟩) HBW.out).trans HX0.out; have c1 := (hbu.cell (p := ⟨b, off + i * 4 + 1, none⟩) HBW.out).trans HX1.out; have g0 := (hbu.cell (p := ⟨gt, k * 2, none⟩) HGW.out).trans HY0.out; have g1 := (hbu.cell (p := ⟨gt, k * 2 + 1, none⟩) HGW.out).trans HY1.out
                                  refine Mono.if_want rfl ?_
                                  exact Mono.ok_move (.tmp 142) rfl (Mono.dep_at hdu (i := 3) (d := 142) rfl rfl rfl)
                                · intro a u hbu hsu hdu
                                  have c0 := (hbu.cell (p := ⟨b, off + i * 4, none⟩) HBW.out).trans HX0.out; have c1 := (hbu.cell (p := ⟨b, off + i * 4 + 1, none⟩) HBW.out).trans HX1.out; have g0 := (hbu.cell (p := ⟨gt, k * 2, none⟩) HGW.out).trans HY0.out; have g1 := (hbu.cell (p := ⟨gt, k * 2 + 1, none⟩) HGW.out).trans HY1.out
                                  refine Mono.if_want (Mono.want_at (c := true) rfl rfl (Mono.dep_at hdu (i := 4) (d := 143) rfl rfl rfl) rfl) ?_
                                  exact Mono.ok_move (.tmp 14) rfl (hsu 14 (by decide))
                                · intro a u hbu hsu hdu
                                  have c0 := (hbu.cell (p := ⟨b, off + i * 4, none⟩) HBW.out).trans HX0.out; have c1 := (hbu.cell (p := ⟨b, off + i * 4 + 1, none⟩) HBW.out).trans HX1.out; have g0 := (hbu.cell (p := ⟨gt, k * 2, none⟩) HGW.out).trans HY0.out; have g1 := (hbu.cell (p := ⟨gt, k * 2 + 1, none⟩) HGW.out).trans HY1.out
                                  refine Mono.if_want (Mono.want_at (c := true) rfl rfl (Mono.dep_at hdu (i := 4) (d := 143) rfl rfl rfl) rfl) ?_
                                  exact Mono.ok_move (.tmp 20) rfl (hsu 20 (by decide))
                                · intro a u hbu hsu hdu
                                  have c0 := (hbu.cell (p := ⟨b, off + i * 4, none⟩) HBW.out).trans HX0.out; have c1 := (hbu.cell (p := ⟨b, off + i * 4 + 1, none⟩) HBW.out).trans HX1.out; have g0 := (hbu.cell (p := ⟨gt, k * 2, none⟩) HGW.out).trans HY0.out; have g1 := (hbu.cell (p := ⟨gt, k * 2 + 1, none⟩) HGW.out).trans HY1.out
                                  refine Mono.if_want (Mono.want_at (c := true) rfl rfl (Mono.dep_at hdu (i := 4) (d := 143) rfl rfl rfl) rfl) ?_
                                  have z144 : a.eval (.tmp 144) = .slice (some ⟨gt, 0, none⟩) cn ct := Mono.dep_at hdu (i := 5) (d := 144) rfl rfl rfl
                                  simp [Act.eval] at z144
                                  have z145 : a.eval (.tmp 145) = .int .i64 (k : Int) := Mono.dep_at hdu (i := 6) (d := 145) rfl rfl rfl
                                  simp [Act.eval] at z145
                                  exact Mono.ok_val (.pointer (some ⟨gt, k * 2, none⟩)) (by simp [execOp, z144, z145, go_sem, c0, c1, g0, g1, hkz, hnk, hni, ht1, ht2]) rfl
                                · intro a u hbu hsu hdu
                                  have c0 := (hbu.cell (p := ⟨b, off + i * 4, none⟩) HBW.out).trans HX0.out; have c1 := (hbu.cell (p := ⟨b, off + i * 4 + 1, none⟩) HBW.out).trans HX1.out; have g0 := (hbu.cell (p := ⟨gt, k * 2, none⟩) HGW.out).trans HY0.out; have g1 := (hbu.cell (p := ⟨gt, k * 2 + 1, none⟩) HGW.out).trans HY1.out
                                  refine Mono.if_want (Mono.want_at (c := true) rfl rfl (Mono.dep_at hdu (i := 4) (d := 143) rfl rfl rfl) rfl) ?_
                                  have z146 : a.eval (.tmp 146) = .pointer (some ⟨gt, k * 2, none⟩) := Mono.dep_at hdu (i := 7) (d := 146) rfl rfl rfl
                                  simp [Act.eval] at z146
                                  exact Mono.ok_val (.pointer (some ⟨gt, k * 2, none⟩)) (by simp [execOp, z146, go_sem, c0, c1, g0, g1, hkz, hnk, hni, ht1, ht2]) rfl
                                · intro a u hbu hsu hdu
                                  have c0 := (hbu.cell (p := ⟨b, off + i * 4, none⟩) HBW.out).trans HX0.out; have c1 := (hbu.cell (p := ⟨b, off + i * 4 + 1, none⟩) HBW.out).trans HX1.out; have g0 := (hbu.cell (p := ⟨gt, k * 2, none⟩) HGW.out).trans HY0.out; have g1 := (hbu.cell (p := ⟨gt, k * 2 + 1, none⟩) HGW.out).trans HY1.out
                                  refine Mono.if_want (Mono.want_at (c := true) rfl rfl (Mono.dep_at hdu (i := 4) (d := 143) rfl rfl rfl) rfl) ?_
                                  have z147 : a.eval (.tmp 147) = .pointer (some ⟨gt, k * 2, none⟩) := Mono.dep_at hdu (i := 8) (d := 147) rfl rfl rfl
                                  simp [Act.eval] at z147
                                  exact Mono.ok_val (.int .u16 (s : Int)) (by simp [execOp, z147, go_sem, c0, c1, g0, g1, hkz, hnk, hni, ht1, ht2]) rfl
                                · intro a u hbu hsu hdu
                                  have c0 := (hbu.cell (p := ⟨b, off + i * 4, none⟩) HBW.out).trans HX0.out; have c1 := (hbu.cell (p := ⟨b, off + i * 4 + 1, none⟩) HBW.out).trans HX1.out; have g0 := (hbu.cell (p := ⟨gt, k * 2, none⟩) HGW.out).trans HY0.out; have g1 := (hbu.cell (p := ⟨gt, k * 2 + 1, none⟩) HGW.out).trans HY1.out
                                  refine Mono.if_want (Mono.want_at (c := true) rfl rfl (Mono.dep_at hdu (i := 4) (d := 143) rfl rfl rfl) rfl) ?_
                                  exact Mono.ok_move (.tmp 19) rfl (hsu 19 (by decide))
                                · intro a u hbu hsu hdu
                                  have c0 := (hbu.cell (p := ⟨b, off + i * 4, none⟩) HBW.out).trans HX0.out; have c1 := (hbu.cell (p := ⟨b, off + i * 4 + 1, none⟩) HBW.out).trans HX1.out; have g0 := (hbu.cell (p := ⟨gt, k * 2, none⟩) HGW.out).trans HY0.out; have g1 := (hbu.cell (p := ⟨gt, k * 2 + 1, none⟩) HGW.out).trans HY1.out
                                  refine Mono.if_want (Mono.want_at (c := true) rfl rfl (Mono.dep_at hdu (i := 4) (d := 143) rfl rfl rfl) rfl) ?_
                                  have z148 : a.eval (.tmp 148) = .int .u16 (s : Int) := Mono.dep_at hdu (i := 9) (d := 148) rfl rfl rfl
                                  simp [Act.eval] at z148
                                  have z149 : a.eval (.tmp 149) = .int .u16 (s : Int) := Mono.dep_at hdu (i := 10) (d := 149) rfl rfl rfl
                                  simp [Act.eval] at z149
                                  exact Mono.ok_val (.bool false) (by simp [execOp, z148, z149, go_sem, c0, c1, g0, g1, hkz, hnk, hni, ht1, ht2]) rfl
                                · intro a u hbu hsu hdu
                                  have c0 := (hbu.cell (p := ⟨b, off + i * 4, none⟩) HBW.out).trans HX0.out; have c1 := (hbu.cell (p := ⟨b, off + i * 4 + 1, none⟩) HBW.out).trans HX1.out; have g0 := (hbu.cell (p := ⟨gt, k * 2, none⟩) HGW.out).trans HY0.out; have g1 := (hbu.cell (p := ⟨gt, k * 2 + 1, none⟩) HGW.out).trans HY1.out
                                  refine Mono.if_want (Mono.want_at (c := true) rfl rfl (Mono.dep_at hdu (i := 4) (d := 143) rfl rfl rfl) rfl) ?_
                                  exact Mono.ok_move (.tmp 150) rfl (Mono.dep_at hdu (i := 11) (d := 150) rfl rfl rfl)
                                · intro a u hbu hsu hdu
                                  have c0 := (hbu.cell (p := ⟨b, off + i * 4, none⟩) HBW.out).trans HX0.out; have c1 := (hbu.cell (p := ⟨b, off + i * 4 + 1, none⟩) HBW.out).trans HX1.out; have g0 := (hbu.cell (p := ⟨gt, k * 2, none⟩) HGW.out).trans HY0.out; have g1 := (hbu.cell (p := ⟨gt, k * 2 + 1, none⟩) HGW.out).trans HY1.out
                                  refine Mono.if_want (Mono.want_at (c := false) rfl rfl (Mono.dep_at hdu (i := 12) (d := 151) rfl rfl rfl) rfl) ?_
                                  exact Mono.ok_move (.tmp 14) rfl (hsu 14 (by decide))
                                · intro a u hbu hsu hdu
                                  have c0 := (hbu.cell (p := ⟨b, off + i * 4, none⟩) HBW.out).trans HX0.out; have c1 := (hbu.cell (p := ⟨b, off + i * 4 + 1, none⟩) HBW.out).trans HX1.out; have g0 := (hbu.cell (p := ⟨gt, k * 2, none⟩) HGW.out).trans HY0.out; have g1 := (hbu.cell (p := ⟨gt, k * 2 + 1, none⟩) HGW.out).trans HY1.out
                                  refine Mono.if_want (Mono.want_at (c := false) rfl rfl (Mono.dep_at hdu (i := 12) (d := 151) rfl rfl rfl) rfl) ?_
                                  exact Mono.ok_move (.tmp 20) rfl (hsu 20 (by decide))
                                · intro a u hbu hsu hdu
                                  have c0 := (hbu.cell (p := ⟨b, off + i * 4, none⟩) HBW.out).trans HX0.out; have c1 := (hbu.cell (p := ⟨b, off + i * 4 + 1, none⟩) HBW.out).trans HX1.out; have g0 := (hbu.cell (p := ⟨gt, k * 2, none⟩) HGW.out).trans HY0.out; have g1 := (hbu.cell (p := ⟨gt, k * 2 + 1, none⟩) HGW.out).trans HY1.out
                                  refine Mono.if_want (Mono.want_at (c := false) rfl rfl (Mono.dep_at hdu (i := 12) (d := 151) rfl rfl rfl) rfl) ?_
                                  have z152 : a.eval (.tmp 152) = .slice (some ⟨gt, 0, none⟩) cn ct := Mono.dep_at hdu (i := 13) (d := 152) rfl rfl rfl
                                  simp [Act.eval] at z152
                                  have z153 : a.eval (.tmp 153) = .int .i64 (k : Int) := Mono.dep_at hdu (i := 14) (d := 153) rfl rfl rfl
                                  simp [Act.eval] at z153
                                  exact Mono.ok_val (.pointer (some ⟨gt, k * 2, none⟩)) (by simp [execOp, z152, z153, go_sem, c0, c1, g0, g1, hkz, hnk, hni, ht1, ht2]) rfl
                                · intro a u hbu hsu hdu
                                  have c0 := (hbu.cell (p := ⟨b, off + i * 4, none⟩) HBW.out).trans HX0.out; have c1 := (hbu.cell (p := ⟨b, off + i * 4 + 1, none⟩) HBW.out).trans HX1.out; have g0 := (hbu.cell (p := ⟨gt, k * 2, none⟩) HGW.out).trans HY0.out; have g1 := (hbu.cell (p := ⟨gt, k * 2 + 1, none⟩) HGW.out).trans HY1.out
                                  refine Mono.if_want (Mono.want_at (c := false) rfl rfl (Mono.dep_at hdu (i := 12) (d := 151) rfl rfl rfl) rfl) ?_
                                  have z154 : a.eval (.tmp 154) = .pointer (some ⟨gt, k * 2, none⟩) := Mono.dep_at hdu (i := 15) (d := 154) rfl rfl rfl
                                  simp [Act.eval] at z154
                                  exact Mono.ok_val (.pointer (some ⟨gt, k * 2 + 1, none⟩)) (by simp [execOp, z154, go_sem, c0, c1, g0, g1, hkz, hnk, hni, ht1, ht2]) rfl
                                · intro a u hbu hsu hdu
                                  have c0 := (hbu.cell (p := ⟨b, off + i * 4, none⟩) HBW.out).trans HX0.out; have c1 := (hbu.cell (p := ⟨b, off + i * 4 + 1, none⟩) HBW.out).trans HX1.out; have g0 := (hbu.cell (p := ⟨gt, k * 2, none⟩) HGW.out).trans HY0.out; have g1 := (hbu.cell (p := ⟨gt, k * 2 + 1, none⟩) HGW.out).trans HY1.out
                                  refine Mono.if_want (Mono.want_at (c := false) rfl rfl (Mono.dep_at hdu (i := 12) (d := 151) rfl rfl rfl) rfl) ?_
                                  have z155 : a.eval (.tmp 155) = .pointer (some ⟨gt, k * 2 + 1, none⟩) := Mono.dep_at hdu (i := 16) (d := 155) rfl rfl rfl
                                  simp [Act.eval] at z155
                                  exact Mono.ok_val (.slice py yn my) (by simp [execOp, z155, go_sem, c0, c1, g0, g1, hkz, hnk, hni, ht1, ht2]) rfl
                                · intro a u hbu hsu hdu
                                  have c0 := (hbu.cell (p := ⟨b, off + i * 4, none⟩) HBW.out).trans HX0.out; have c1 := (hbu.cell (p := ⟨b, off + i * 4 + 1, none⟩) HBW.out).trans HX1.out; have g0 := (hbu.cell (p := ⟨gt, k * 2, none⟩) HGW.out).trans HY0.out; have g1 := (hbu.cell (p := ⟨gt, k * 2 + 1, none⟩) HGW.out).trans HY1.out
                                  refine Mono.if_want (Mono.want_at (c := false) rfl rfl (Mono.dep_at hdu (i := 12) (d := 151) rfl rfl rfl) rfl) ?_
                                  have z156 : a.eval (.tmp 156) = .slice py yn my := Mono.dep_at hdu (i := 17) (d := 156) rfl rfl rfl
                                  exact Mono.ok_conv 30 9 (.tmp 156) rfl _ (by rw [z156, ← HSY.out]; exact Chunk.string30 (Row.below HRY.out hbu).reads) rfl
                                · intro a u hbu hsu hdu
                                  have c0 := (hbu.cell (p := ⟨b, off + i * 4, none⟩) HBW.out).trans HX0.out; have c1 := (hbu.cell (p := ⟨b, off + i * 4 + 1, none⟩) HBW.out).trans HX1.out; have g0 := (hbu.cell (p := ⟨gt, k * 2, none⟩) HGW.out).trans HY0.out; have g1 := (hbu.cell (p := ⟨gt, k * 2 + 1, none⟩) HGW.out).trans HY1.out
                                  refine Mono.if_want (Mono.want_at (c := false) rfl rfl (Mono.dep_at hdu (i := 12) (d := 151) rfl rfl rfl) rfl) ?_
                                  exact Mono.ok_move (.tmp 0) rfl (hsu 0 (by decide))
                                · intro a u hbu hsu hdu
                                  have c0 := (hbu.cell (p := ⟨b, off + i * 4, none⟩) HBW.out).trans HX0.out; have c1 := (hbu.cell (p := ⟨b, off + i * 4 + 1, none⟩) HBW.out).trans HX1.out; have g0 := (hbu.cell (p := ⟨gt, k * 2, none⟩) HGW.out).trans HY0.out; have g1 := (hbu.cell (p := ⟨gt, k * 2 + 1, none⟩) HGW.out).trans HY1.out
                                  refine Mono.if_want (Mono.want_at (c := false) rfl rfl (Mono.dep_at hdu (i := 12) (d := 151) rfl rfl rfl) rfl) ?_
                                  exact Mono.ok_move (.tmp 21) rfl (hsu 21 (by decide))
                                · intro a u hbu hsu hdu
                                  have c0 := (hbu.cell (p := ⟨b, off + i * 4, none⟩) HBW.out).trans HX0.out; have c1 := (hbu.cell (p := ⟨b, off + i * 4 + 1, none⟩) HBW.out).trans HX1.out; have g0 := (hbu.cell (p := ⟨gt, k * 2, none⟩) HGW.out).trans HY0.out; have g1 := (hbu.cell (p := ⟨gt, k * 2 + 1, none⟩) HGW.out).trans HY1.out
                                  refine Mono.if_want (Mono.want_at (c := false) rfl rfl (Mono.dep_at hdu (i := 12) (d := 151) rfl rfl rfl) rfl) ?_
                                  have z158 : a.eval (.tmp 158) = .slice (some ⟨b, off, none⟩) n c := Mono.dep_at hdu (i := 19) (d := 158) rfl rfl rfl
                                  simp [Act.eval] at z158
                                  have z159 : a.eval (.tmp 159) = .int .i64 (i : Int) := Mono.dep_at hdu (i := 20) (d := 159) rfl rfl rfl
                                  simp [Act.eval] at z159
                                  exact Mono.ok_val (.pointer (some ⟨b, off + i * 4, none⟩)) (by simp [execOp, z158, z159, go_sem, c0, c1, g0, g1, hkz, hnk, hni, ht1, ht2]) rfl
                                · intro a u hbu hsu hdu
                                  have c0 := (hbu.cell (p := ⟨b, off + i * 4, none⟩) HBW.out).trans HX0.out; have c1 := (hbu.cell (p := ⟨b, off + i * 4 + 1, none⟩) HBW.out).trans HX1.out; have g0 := (hbu.cell (p := ⟨gt, k * 2, none⟩) HGW.out).trans HY0.out; have g1 := (hbu.cell (p := ⟨gt, k * 2 + 1, none⟩) HGW.out).trans HY1.out
                                  refine Mono.if_want (Mono.want_at (c := false) rfl rfl (Mono.dep_at hdu (i := 12) (d := 151) rfl rfl rfl) rfl) ?_
                                  have z160 : a.eval (.tmp 160) = .pointer (some ⟨b, off + i * 4, none⟩) := Mono.dep_at hdu (i := 21) (d := 160) rfl rfl rfl
                                  simp [Act.eval] at z160
                                  exact Mono.ok_val (.pointer (some ⟨b, off + i * 4, none⟩)) (by simp [execOp, z160, go_sem, c0, c1, g0, g1, hkz, hnk, hni, ht1, ht2]) rfl
                                · intro a u hbu hsu hdu
                                  have c0 := (hbu.cell (p := ⟨b, off + i * 4, none⟩) HBW.out).trans HX0.out; have c1 := (hbu.cell (p := ⟨b, off + i * 4 + 1, none⟩) HBW.out).trans HX1.out; have g0 := (hbu.cell (p := ⟨gt, k * 2, none⟩) HGW.out).trans HY0.out; have g1 := (hbu.cell (p := ⟨gt, k * 2 + 1, none⟩) HGW.out).trans HY1.out
                                  refine Mono.if_want (Mono.want_at (c := false) rfl rfl (Mono.dep_at hdu (i := 12) (d := 151) rfl rfl rfl) rfl) ?_
                                  have z161 : a.eval (.tmp 161) = .pointer (some ⟨b, off + i * 4, none⟩) := Mono.dep_at hdu (i := 22) (d := 161) rfl rfl rfl
                                  simp [Act.eval] at z161
                                  exact Mono.ok_val (.pointer (some ⟨b, off + i * 4 + 1, none⟩)) (by simp [execOp, z161, go_sem, c0, c1, g0, g1, hkz, hnk, hni, ht1, ht2]) rfl
                                · intro a u hbu hsu hdu
                                  have c0 := (hbu.cell (p := ⟨b, off + i * 4, none⟩) HBW.out).trans HX0.out; have c1 := (hbu.cell (p := ⟨b, off + i * 4 + 1, none⟩) HBW.out).trans HX1.out; have g0 := (hbu.cell (p := ⟨gt, k * 2, none⟩) HGW.out).trans HY0.out; have g1 := (hbu.cell (p := ⟨gt, k * 2 + 1, none⟩) HGW.out).trans HY1.out
                                  refine Mono.if_want (Mono.want_at (c := false) rfl rfl (Mono.dep_at hdu (i := 12) (d := 151) rfl rfl rfl) rfl) ?_
                                  have z162 : a.eval (.tmp 162) = .pointer (some ⟨b, off + i * 4 + 1, none⟩) := Mono.dep_at hdu (i := 23) (d := 162) rfl rfl rfl
                                  simp [Act.eval] at z162
                                  exact Mono.ok_val (.slice pd L cd) (by simp [execOp, z162, go_sem, c0, c1, g0, g1, hkz, hnk, hni, ht1, ht2]) rfl
                                · intro a u hbu hsu hdu
                                  have c0 := (hbu.cell (p := ⟨b, off + i * 4, none⟩) HBW.out).trans HX0.out; have c1 := (hbu.cell (p := ⟨b, off + i * 4 + 1, none⟩) HBW.out).trans HX1.out; have g0 := (hbu.cell (p := ⟨gt, k * 2, none⟩) HGW.out).trans HY0.out; have g1 := (hbu.cell (p := ⟨gt, k * 2 + 1, none⟩) HGW.out).trans HY1.out
                                  refine Mono.if_want (Mono.want_at (c := false) rfl rfl (Mono.dep_at hdu (i := 12) (d := 151) rfl rfl rfl) rfl) ?_
                                  have z163 : a.eval (.tmp 163) = .slice pd L cd := Mono.dep_at hdu (i := 24) (d := 163) rfl rfl rfl
                                  exact Mono.ok_conv 30 9 (.tmp 163) rfl _ (by rw [z163, ← HSX.out]; exact Chunk.string30 (HRX.out.below hbu)) rfl
                                · intro a u hbu hsu hdu
                                  have c0 := (hbu.cell (p := ⟨b, off + i * 4, none⟩) HBW.out).trans HX0.out; have c1 := (hbu.cell (p := ⟨b, off + i * 4 + 1, none⟩) HBW.out).trans HX1.out; have g0 := (hbu.cell (p := ⟨gt, k * 2, none⟩) HGW.out).trans HY0.out; have g1 := (hbu.cell (p := ⟨gt, k * 2 + 1, none⟩) HGW.out).trans HY1.out
                                  refine Mono.if_want (Mono.want_at (c := false) rfl rfl (Mono.dep_at hdu (i := 12) (d := 151) rfl rfl rfl) rfl) ?_
                                  have z157 : a.eval (.tmp 157) = .string sy := Mono.dep_at hdu (i := 18) (d := 157) rfl rfl rfl
                                  simp [Act.eval] at z157
                                  have z164 : a.eval (.tmp 164) = .string sx := Mono.dep_at hdu (i := 25) (d := 164) rfl rfl rfl
                                  simp [Act.eval] at z164
                                  exact Mono.ok_val (.bool true) (by simp [execOp, z157, z164, go_sem, c0, c1, g0, g1, hkz, hnk, hni, ht1, ht2]) rfl
                                · intro a u hbu hsu hdu
                                  have c0 := (hbu.cell (p := ⟨b, off + i * 4, none⟩) HBW.out).trans HX0.out; have c1 := (hbu.cell (p := ⟨b, off + i * 4 + 1, none⟩) HBW.out).trans HX1.out; have g0 := (hbu.cell (p := ⟨gt, k * 2, none⟩) HGW.out).trans HY0.out; have g1 := (hbu.cell (p := ⟨gt, k * 2 + 1, none⟩) HGW.out).trans HY1.out
                                  refine Mono.if_want (Mono.want_at (c := true) rfl rfl (Mono.dep_at hdu (i := 4) (d := 143) rfl rfl rfl) rfl) ?_
                                  have z151 : a.eval (.tmp 151) = .bool false := Mono.dep_at hdu (i := 12) (d := 151) rfl rfl rfl
                                  simp [Act.eval] at z151
                                  have z165 : a.eval (.tmp 165) = .bool true := Mono.dep_at hdu (i := 26) (d := 165) rfl rfl rfl
                                  simp [Act.eval] at z165
                                  exact Mono.ok_val (.bool true) (by simp [execOp, z151, z165, go_sem, c0, c1, g0, g1, hkz, hnk, hni, ht1, ht2]) rfl
                                · intro a u hbu hsu hdu
                                  have c0 := (hbu.cell (p := ⟨b, off + i * 4, none⟩) HBW.out).trans HX0.out; have c1 := (hbu.cell (p := ⟨b, off + i * 4 + 1, none⟩) HBW.out).trans HX1.out; have g0 := (hbu.cell (p := ⟨gt, k * 2, none⟩) HGW.out).trans HY0.out; have g1 := (hbu.cell (p := ⟨gt, k * 2 + 1, none⟩) HGW.out).trans HY1.out
                                  refine Mono.if_want rfl ?_
                                  have z143 : a.eval (.tmp 143) = .bool true := Mono.dep_at hdu (i := 4) (d := 143) rfl rfl rfl
                                  simp [Act.eval] at z143
                                  have z166 : a.eval (.tmp 166) = .bool true := Mono.dep_at hdu (i := 27) (d := 166) rfl rfl rfl
                                  simp [Act.eval] at z166
                                  exact Mono.ok_val (.bool true) (by simp [execOp, z143, z166, go_sem, c0, c1, g0, g1, hkz, hnk, hni, ht1, ht2]) rfl
                              intro u hu
                              simp only [Mono.Fin]
                              rintro _ rfl _ rfl _ rfl _ rfl _ rfl _ rfl _ rfl _ rfl _ rfl _ rfl _ rfl _ rfl _ rfl _ rfl _ rfl _ rfl _ rfl _ rfl _ rfl _ rfl _ rfl _ rfl _ rfl _ rfl _ rfl _ rfl _ rfl _ rfl _ rfl
                              have HB4 := Lib.hid (HBL.out.trans (hu.mono HBL.out.size))
                              clear hu
                              simp [Act.put]
                              have HKK := Lib.hid (show kC x ≠ kG y from fun e => kne_t (s := y.s) (s' := x.s) (by rw [HSX.out, HSY.out]; exact ht1) e.symm)
                              clear ht1 ht2 het
                              go_wp2_with fail
                              go_roundw
                              case rel => exact ⟨k + 1, by go_num, show k + 1 ≤ cn by omega, HST.out.2 HKK.out, HB4.out⟩
                              case measure => simp [intOf]; omega
                          · have hy1 : (ys == (s : Int)) = false := by simpa using hey
                            have hy2 : (ys != (s : Int)) = true := by simpa using hey
                            go_upto_region 34 with fail
                            refine Mono.wp_region_mono [some 139, some 140, some 141, some 142, some 143, some 144, some 145, some 146, some 147, some 148, some 149, some 150, some 151, some 152, some 153, some 154, some 155, some 156, some 157, some 158, some 159, some 160, some 161, some 162, some 163, some 164, some 165, some 166, some 167] [Mono.isV (.int .i64 (k : Int)), Mono.isV (.slice (some ⟨gt, 0, none⟩) cn ct), Mono.isV (.int .i64 (cn : Int)), Mono.isV (.bool true), Mono.isV (.bool true), Mono.isV (.slice (some ⟨gt, 0, none⟩) cn ct), Mono.isV (.int .i64 (k : Int)), Mono.isV (.pointer (some ⟨gt, k * 2, none⟩)), Mono.isV (.pointer (some ⟨gt, k * 2, none⟩)), Mono.isV (.int .u16 ys), Mono.isV (.int .u16 (s : Int)), Mono.isV (.bool true), Mono.isV (.bool true), Mono.isV (undef), Mono.isV (undef), Mono.isV (undef), Mono.isV (undef), Mono.isV (undef), Mono.isV (undef), Mono.isV (undef), Mono.isV (undef), Mono.isV (undef), Mono.isV (undef), Mono.isV (undef), Mono.isV (undef), Mono.isV (undef), Mono.isV (undef), Mono.isV (.bool true), Mono.isV (.bool true)] (by kernel_rfl) (by kernel_rfl) ?_ ?_
                            · simp only [Mono.OpGoals, and_true]
                              refine ⟨?_, ?_, ?_, ?_, ?_, ?_, ?_, ?_, ?_, ?_, ?_, ?_, ?_, ?_, ?_, ?_, ?_, ?_, ?_, ?_, ?_, ?_, ?_, ?_, ?_, ?_, ?_, ?_, ?_⟩
                              · intro a u hbu hsu hdu
                                have c0 := (hbu.cell (p := ⟨b, off + i * 4, none⟩) HBW.out).trans HX0.out; have c1 := (hbu.cell (p := ⟨b, off + i * 4 + 1, none⟩) HBW.out).trans HX1.out; have g0 := (hbu.cell (p := ⟨gt, k * 2, none⟩) HGW.out).trans HY0.out; have g1 := (hbu.cell (p := ⟨gt, k * 2 + 1, none⟩) HGW.out).trans HY1.out
                                refine Mono.if_want rfl ?_
                                exact Mono.ok_move (.tmp 20) rfl (hsu 20 (by decide))
                              · intro a u hbu hsu hdu
                                have c0 := (hbu.cell (p := ⟨b, off + i * 4, none⟩) HBW.out).trans HX0.out; have c1 := (hbu.cell (p := ⟨b, off + i * 4 + 1, none⟩) HBW.out).trans HX1.out; have g0 := (hbu.cell (p := ⟨gt, k * 2, none⟩) HGW.out).trans HY0.out; have g1 := (hbu.cell (p := ⟨gt, k * 2 + 1, none⟩) HGW.out).trans HY1.out
                                refine Mono.if_want rfl ?_
                                exact Mono.ok_move (.tmp 14) rfl (hsu 14 (by decide))
                              · intro a u hbu hsu hdu
                                have c0 := (hbu.cell (p := ⟨b, off + i * 4, none⟩) HBW.out).trans HX0.out; have c1 := (hbu.cell (p := ⟨b, off + i * 4 + 1, none⟩) HBW.out).trans HX1.out; have g0 := (hbu.cell (p := ⟨gt, k * 2, none⟩) HGW.out).trans HY0.out; have g1 := (hbu.cell (p := ⟨gt, k * 2 + 1, none⟩) HGW.out).trans HY1.out
                                refine Mono.if_want rfl ?_
                                have z140 : a.eval (.tmp 140) = .slice (some ⟨gt, 0, none⟩) cn ct := Mono.dep_at hdu (i := 1) (d := 140) rfl rfl rfl
                                simp [Act.eval] at z140
                                exact Mono.ok_val (.int .i64 (cn : Int)) (by simp [execOp, z140, go_sem, c0, c1, g0, g1, hkz, hnk, hni, hy1, hy2]) rfl
                              · intro a u hbu hsu hdu
                                have c0 := (hbu.cell (p := ⟨b, off + i * 4, none⟩) HBW.out).trans HX0.out; have c1 := (hbu.cell (p := ⟨b, off + i * 4 + 1, none⟩) HBW.out).trans HX1.out; have g0 := (hbu.cell (p := ⟨gt, k * 2, none⟩) HGW.out).trans HY0.out; have g1 := (hbu.cell (p := ⟨gt, k * 2 + 1, none⟩) HGW.out).trans HY1.out
                                refine Mono.if_want rfl ?_
                                have z139 : a.eval (.tmp 139) = .int .i64 (k : Int) := Mono.dep_at hdu (i := 0) (d := 139) rfl rfl rfl
                                simp [Act.eval] at z139
                                have z141 : a.eval (.tmp 141) = .int .i64 (cn : Int) := Mono.dep_at hdu (i := 2) (d := 141) rfl rfl rfl
                                simp [Act.eval] at z141
                                exact Mono.ok_val (.bool true) (by simp [execOp, z139, z141, go_sem, c0, c1, g0, g1, hkz, hnk, hni, hy1, hy2]) rfl
                              · intro a u hbu hsu hdu
                                have c0 := (hbu.cell (p := ⟨b, off + i * 4, none⟩) HBW.out).trans HX0.out; have c1 := (hbu.cell (p := ⟨b, off + i * 4 + 1, none⟩) HBW.out).trans HX1.out; have g0 := (hbu.cell (p := ⟨gt, k * 2, none⟩) HGW.out).trans HY0.out; have g1 := (hbu.cell (p := ⟨gt, k * 2 + 1, none⟩) HGW.out).trans HY1.out
                                refine Mono.if_want rfl ?_
                                exact Mono.ok_move (.tmp 142) rfl (Mono.dep_at hdu (i := 3) (d := 142) rfl rfl rfl)
                              · intro a u hbu hsu hdu
                                have c0 := (hbu.cell (p := ⟨b, off + i * 4, none⟩) HBW.out).trans HX0.out; have c1 := (hbu.cell (p := ⟨b, off + i * 4 + 1, none⟩) HBW.out).trans HX1.out; have g0 := (hbu.cell (p := ⟨gt, k * 2, none⟩) HGW.out).trans HY0.out; have g1 := (hbu.cell (p := ⟨gt, k * 2 + 1, none⟩) HGW.out).trans HY1.out
                                refine Mono.if_want (Mono.want_at (c := true) rfl rfl (Mono.dep_at hdu (i := 4) (d := 143) rfl rfl rfl) rfl) ?_
                                exact Mono.ok_move (.tmp 14) rfl (hsu 14 (by decide))
                              · intro a u hbu hsu hdu
                                have c0 := (hbu.cell (p := ⟨b, off + i * 4, none⟩) HBW.out).trans HX0.out; have c1 := (hbu.cell (p := ⟨b, off + i * 4 + 1, none⟩) HBW.out).trans HX1.out; have g0 := (hbu.cell (p := ⟨gt, k * 2, none⟩) HGW.out).trans HY0.out; have g1 := (hbu.cell (p := ⟨gt, k * 2 + 1, none⟩) HGW.out).trans HY1.out
                                refine Mono.if_want (Mono.want_at (c := true) rfl rfl (Mono.dep_at hdu (i := 4) (d := 143) rfl rfl rfl) rfl) ?_
                                exact Mono.ok_move (.tmp 20) rfl (hsu 20 (by decide))
                              · intro a u hbu hsu hdu
                                have c0 := (hbu.cell (p := ⟨b, off + i * 4, none⟩) HBW.out).trans HX0.out; have c1 := (hbu.cell (p := ⟨b, off + i * 4 + 1, none⟩) HBW.out).trans HX1.out; have g0 := (hbu.cell (p := ⟨gt, k * 2, none⟩) HGW.out).trans HY0.out; have g1 := (hbu.cell (p := ⟨gt, k * 2 + 1, none⟩) HGW.out).trans HY1.out
                                refine Mono.if_want (Mono.want_at (c := true) rfl rfl (Mono.dep_at hdu (i := 4) (d := 143) rfl rfl rfl) rfl) ?_
                                have z144 : a.eval (.tmp 144) = .slice (some ⟨gt, 0, none⟩) cn ct := Mono.dep_at hdu (i := 5) (d := 144) rfl rfl rfl
                                simp [Act.eval] at z144
                                have z145 : a.eval (.tmp 145) = .int .i64 (k : Int) := Mono.dep_at hdu (i := 6) (d := 145) rfl rfl rfl
                                simp [Act.eval] at z145
                                exact Mono.ok_val (.pointer (some ⟨gt, k * 2, none⟩)) (by simp [execOp, z144, z145, go_sem, c0, c1, g0, g1, hkz, hnk, hni, hy1, hy2]) rfl
                              · intro a u hbu hsu hdu
                                have c0 := (hbu.cell (p := ⟨b, off + i * 4, none⟩) HBW.out).trans HX0.out; have c1 := (hbu.cell (p := ⟨b, off + i * 4 + 1, none⟩) HBW.out).trans HX1.out; have g0 := (hbu.cell (p := ⟨gt, k * 2, none⟩) HGW.out).trans HY0.out; have g1 := (hbu.cell (p := ⟨gt, k * 2 + 1, none⟩) HGW.out).trans HY1.out
                                refine Mono.if_want (Mono.want_at (c := true) rfl rfl (Mono.dep_at hdu (i := 4) (d := 143) rfl rfl rfl) rfl) ?_
                                have z146 : a.eval (.tmp 146) = .pointer (some ⟨gt, k * 2, none⟩) := Mono.dep_at hdu (i := 7) (d := 146) rfl rfl rfl
                                simp [Act.eval] at z146
                                exact Mono.ok_val (.pointer (some ⟨gt, k * 2, none⟩)) (by simp [execOp, z146, go_sem, c0, c1, g0, g1, hkz, hnk, hni, hy1, hy2]) rfl
                              · intro a u hbu hsu hdu
                                have c0 := (hbu.cell (p := ⟨b, off + i * 4, none⟩) HBW.out).trans HX0.out; have c1 := (hbu.cell (p := ⟨b, off + i * 4 + 1, none⟩) HBW.out).trans HX1.out; have g0 := (hbu.cell (p := ⟨gt, k * 2, none⟩) HGW.out).trans HY0.out; have g1 := (hbu.cell (p := ⟨gt, k * 2 + 1, none⟩) HGW.out).trans HY1.out
                                refine Mono.if_want (Mono.want_at (c := true) rfl rfl (Mono.dep_at hdu (i := 4) (d := 143) rfl rfl rfl) rfl) ?_
                                have z147 : a.eval (.tmp 147) = .pointer (some ⟨gt, k * 2, none⟩) := Mono.dep_at hdu (i := 8) (d := 147) rfl rfl rfl
                                simp [Act.eval] at z147
                                exact Mono.ok_val (.int .u16 ys) (by simp [execOp, z147, go_sem, c0, c1, g0, g1, hkz, hnk, hni, hy1, hy2]) rfl
                              · intro a u hbu hsu hdu
                                have c0 := (hbu.cell (p := ⟨b, off + i * 4, none⟩) HBW.out).trans HX0.out; have c1 := (hbu.cell (p := ⟨b, off + i * 4 + 1, none⟩) HBW.out).trans HX1.out; have g0 := (hbu.cell (p := ⟨gt, k * 2, none⟩) HGW.out).trans HY0.out; have g1 := (hbu.cell (p := ⟨gt, k * 2 + 1, none⟩) HGW.out).trans HY1.out
                                refine Mono.if_want (Mono.want_at (c := true) rfl rfl (Mono.dep_at hdu (i := 4) (d := 143) rfl rfl rfl) rfl) ?_
                                exact Mono.ok_move (.tmp 19) rfl (hsu 19 (by decide))
                              · intro a u hbu hsu hdu
                                have c0 := (hbu.cell (p := ⟨b, off + i * 4, none⟩) HBW.out).trans HX0.out; have c1 := (hbu.cell (p := ⟨b, off + i * 4 + 1, none⟩) HBW.out).trans HX1.out; have g0 := (hbu.cell (p := ⟨gt, k * 2, none⟩) HGW.out).trans HY0.out; have g1 := (hbu.cell (p := ⟨gt, k * 2 + 1, none⟩) HGW.out).trans HY1.out
                                refine Mono.if_want (Mono.want_at (c := true) rfl rfl (Mono.dep_at hdu (i := 4) (d := 143) rfl rfl rfl) rfl) ?_
                                have z148 : a.eval (.tmp 148) = .int .u16 ys := Mono.dep_at hdu (i := 9) (d := 148) rfl rfl rfl
                                simp [Act.eval] at z148
                                have z149 : a.eval (.tmp 149) = .int .u16 (s : Int) := Mono.dep_at hdu (i := 10) (d := 149) rfl rfl rfl
                                simp [Act.eval] at z149
                                exact Mono.ok_val (.bool true) (by simp [execOp, z148, z149, go_sem, c0, c1, g0, g1, hkz, hnk, hni, hy1, hy2]) rfl
                              · intro a u hbu hsu hdu
                                have c0 := (hbu.cell (p := ⟨b, off + i * 4, none⟩) HBW.out).trans HX0.out; have c1 := (hbu.cell (p := ⟨b, off + i * 4 + 1, none⟩) HBW.out).trans HX1.out; have g0 := (hbu.cell (p := ⟨gt, k * 2, none⟩) HGW.out).trans HY0.out; have g1 := (hbu.cell (p := ⟨gt, k * 2 + 1, none⟩) HGW.out).trans HY1.out
                                refine Mono.if_want (Mono.want_at (c := true) rfl rfl (Mono.dep_at hdu (i := 4) (d := 143) rfl rfl rfl) rfl) ?_
                                exact Mono.ok_move (.tmp 150) rfl (Mono.dep_at hdu (i := 11) (d := 150) rfl rfl rfl)
                              · intro a u hbu hsu hdu
                                have c0 := (hbu.cell (p := ⟨b, off + i * 4, none⟩) HBW.out).trans HX0.out; have c1 := (hbu.cell (p := ⟨b, off + i * 4 + 1, none⟩) HBW.out).trans HX1.out; have g0 := (hbu.cell (p := ⟨gt, k * 2, none⟩) HGW.out).trans HY0.out; have g1 := (hbu.cell (p := ⟨gt, k * 2 + 1, none⟩) HGW.out).trans HY1.out
                                refine Mono.if_no (Mono.want_no (c := true) rfl rfl (Mono.dep_at hdu (i := 12) (d := 151) rfl rfl rfl) rfl) ?_
                                exact rfl
                              · intro a u hbu hsu hdu
                                have c0 := (hbu.cell (p := ⟨b, off + i * 4, none⟩) HBW.out).trans HX0.out; have c1 := (hbu.cell (p := ⟨b, off + i * 4 + 1, none⟩) HBW.out).trans HX1.out; have g0 := (hbu.cell (p := ⟨gt, k * 2, none⟩) HGW.out).trans HY0.out; have g1 := (hbu.cell (p := ⟨gt, k * 2 + 1, none⟩) HGW.out).trans HY1.out
                                refine Mono.if_no (Mono.want_no (c := true) rfl rfl (Mono.dep_at hdu (i := 12) (d := 151) rfl rfl rfl) rfl) ?_
                                exact rfl
                              · intro a u hbu hsu hdu
                                have c0 := (hbu.cell (p := ⟨b, off + i * 4, none⟩) HBW.out).trans HX0.out; have c1 := (hbu.cell (p := ⟨b, off + i * 4 + 1, none⟩) HBW.out).trans HX1.out; have g0 := (hbu.cell (p := ⟨gt, k * 2, none⟩) HGW.out).trans HY0.out; have g1 := (hbu.cell (p := ⟨gt, k * 2 + 1, none⟩) HGW.out).trans HY1.out
                                refine Mono.if_no (Mono.want_no (c := true) rfl rfl (Mono.dep_at hdu (i := 12) (d := 151) rfl rfl rfl) rfl) ?_
                                exact rfl
                              · intro a u hbu hsu hdu
                                have c0 := (hbu.cell (p := ⟨b, off + i * 4, none⟩) HBW.out).trans HX0.out; have c1 := (hbu.cell (p := ⟨b, off + i * 4 + 1, none⟩) HBW.out).trans HX1.out; have g0 := (hbu.cell (p := ⟨gt, k * 2, none⟩) HGW.out).trans HY0.out; have g1 := (hbu.cell (p := ⟨gt, k * 2 + 1, none⟩) HGW.out).trans HY1.out
                                refine Mono.if_no (Mono.want_no (c := true) rfl rfl (Mono.dep_at hdu (i := 12) (d := 151) rfl rfl rfl) rfl) ?_
                                exact rfl
                              · intro a u hbu hsu hdu
                                have c0 := (hbu.cell (p := ⟨b, off + i * 4, none⟩) HBW.out).trans HX0.out; have c1 := (hbu.cell (p := ⟨b, off + i * 4 + 1, none⟩) HBW.out).trans HX1.out; have g0 := (hbu.cell (p := ⟨gt, k * 2, none⟩) HGW.out).trans HY0.out; have g1 := (hbu.cell (p := ⟨gt, k * 2 + 1, none⟩) HGW.out).trans HY1.out
                                refine Mono.if_no (Mono.want_no (c := true) rfl rfl (Mono.dep_at hdu (i := 12) (d := 151) rfl rfl rfl) rfl) ?_
                                exact rfl
                              · intro a u hbu hsu hdu
                                have c0 := (hbu.cell (p := ⟨b, off + i * 4, none⟩) HBW.out).trans HX0.out; have c1 := (hbu.cell (p := ⟨b, off + i * 4 + 1, none⟩) HBW.out).trans HX1.out; have g0 := (hbu.cell (p := ⟨gt, k * 2, none⟩) HGW.out).trans HY0.out; have g1 := (hbu.cell (p := ⟨gt, k * 2 + 1, none⟩) HGW.out).trans HY1.out
                                refine Mono.if_no (Mono.want_no (c := true) rfl rfl (Mono.dep_at hdu (i := 12) (d := 151) rfl rfl rfl) rfl) ?_
                                exact rfl
                              · intro a u hbu hsu hdu
                                have c0 := (hbu.cell (p := ⟨b, off + i * 4, none⟩) HBW.out).trans HX0.out; have c1 := (hbu.cell (p := ⟨b, off + i * 4 + 1, none⟩) HBW.out).trans HX1.out; have g0 := (hbu.cell (p := ⟨gt, k * 2, none⟩) HGW.out).trans HY0.out; have g1 := (hbu.cell (p := ⟨gt, k * 2 + 1, none⟩) HGW.out).trans HY1.out
                                refine Mono.if_no (Mono.want_no (c := true) rfl rfl (Mono.dep_at hdu (i := 12) (d := 151) rfl rfl rfl) rfl) ?_
                                exact rfl
                              · intro a u hbu hsu hdu
                                have c0 := (hbu.cell (p := ⟨b, off + i * 4, none⟩) HBW.out).trans HX0.out; have c1 := (hbu.cell (p := ⟨b, off + i * 4 + 1, none⟩) HBW.out).trans HX1.out; have g0 := (hbu.cell (p := ⟨gt, k * 2, none⟩) HGW.out).trans HY0.out; have g1 := (hbu.cell (p := ⟨gt, k * 2 + 1, none⟩) HGW.out).trans HY1.out
                                refine Mono.if_no (Mono.want_no (c := true) rfl rfl (Mono.dep_at hdu (i := 12) (d := 151) rfl rfl rfl) rfl) ?_
                                exact rfl
                              · intro a u hbu hsu hdu
                                have c0 := (hbu.cell (p := ⟨b, off + i * 4, none⟩) HBW.out).trans HX0.out; have c1 := (hbu.cell (p := ⟨b, off + i * 4 + 1, none⟩) HBW.out).trans HX1.out; have g0 := (hbu.cell (p := ⟨gt, k * 2, none⟩) HGW.out).trans HY0.out; have g1 := (hbu.cell (p := ⟨gt, k * 2 + 1, none⟩) HGW.out).trans HY1.out
                                refine Mono.if_no (Mono.want_no (c := true) rfl rfl (Mono.dep_at hdu (i := 12) (d := 151) rfl rfl rfl) rfl) ?_
                                exact rfl
                              · intro a u hbu hsu hdu
                                have c0 := (hbu.cell (p := ⟨b, off + i * 4, none⟩) HBW.out).trans HX0.out; have c1 := (hbu.cell (p := ⟨b, off + i * 4 + 1, none⟩) HBW.out).trans HX1.out; have g0 := (hbu.cell (p := ⟨gt, k * 2, none⟩) HGW.out).trans HY0.out; have g1 := (hbu.cell (p := ⟨gt, k * 2 + 1, none⟩) HGW.out).trans HY1.out
                                refine Mono.if_no (Mono.want_no (c := true) rfl rfl (Mono.dep_at hdu (i := 12) (d := 151) rfl rfl rfl) rfl) ?_
                                exact rfl
                              · intro a u hbu hsu hdu
                                have c0 := (hbu.cell (p := ⟨b, off + i * 4, none⟩) HBW.out).trans HX0.out; have c1 := (hbu.cell (p := ⟨b, off + i * 4 + 1, none⟩) HBW.out).trans HX1.out; have g0 := (hbu.cell (p := ⟨gt, k * 2, none⟩) HGW.out).trans HY0.out; have g1 := (hbu.cell (p := ⟨gt, k * 2 + 1, none⟩) HGW.out).trans HY1.out
                                refine Mono.if_no (Mono.want_no (c := true) rfl rfl (Mono.dep_at hdu (i := 12) (d := 151) rfl rfl rfl) rfl) ?_
                                exact rfl
                              · intro a u hbu hsu hdu
                                have c0 := (hbu.cell (p := ⟨b, off + i * 4, none⟩) HBW.out).trans HX0.out; have c1 := (hbu.cell (p := ⟨b, off + i * 4 + 1, none⟩) HBW.out).trans HX1.out; have g0 := (hbu.cell (p := ⟨gt, k * 2, none⟩) HGW.out).trans HY0.out; have g1 := (hbu.cell (p := ⟨gt, k * 2 + 1, none⟩) HGW.out).trans HY1.out
                                refine Mono.if_no (Mono.want_no (c := true) rfl rfl (Mono.dep_at hdu (i := 12) (d := 151) rfl rfl rfl) rfl) ?_
                                exact rfl
                              · intro a u hbu hsu hdu
                                have c0 := (hbu.cell (p := ⟨b, off + i * 4, none⟩) HBW.out).trans HX0.out; have c1 := (hbu.cell (p := ⟨b, off + i * 4 + 1, none⟩) HBW.out).trans HX1.out; have g0 := (hbu.cell (p := ⟨gt, k * 2, none⟩) HGW.out).trans HY0.out; have g1 := (hbu.cell (p := ⟨gt, k * 2 + 1, none⟩) HGW.out).trans HY1.out
                                refine Mono.if_no (Mono.want_no (c := true) rfl rfl (Mono.dep_at hdu (i := 12) (d := 151) rfl rfl rfl) rfl) ?_
                                exact rfl
                              · intro a u hbu hsu hdu
                                have c0 := (hbu.cell (p := ⟨b, off + i * 4, none⟩) HBW.out).trans HX0.out; have c1 := (hbu.cell (p := ⟨b, off + i * 4 + 1, none⟩) HBW.out).trans HX1.out; have g0 := (hbu.cell (p := ⟨gt, k * 2, none⟩) HGW.out).trans HY0.out; have g1 := (hbu.cell (p := ⟨gt, k * 2 + 1, none⟩) HGW.out).trans HY1.out
                                refine Mono.if_no (Mono.want_no (c := true) rfl rfl (Mono.dep_at hdu (i := 12) (d := 151) rfl rfl rfl) rfl) ?_
                                exact rfl
                              · intro a u hbu hsu hdu
                                have c0 := (hbu.cell (p := ⟨b, off + i * 4, none⟩) HBW.out).trans HX0.out; have c1 := (hbu.cell (p := ⟨b, off + i * 4 + 1, none⟩) HBW.out).trans HX1.out; have g0 := (hbu.cell (p := ⟨gt, k * 2, none⟩) HGW.out).trans HY0.out; have g1 := (hbu.cell (p := ⟨gt, k * 2 + 1, none⟩) HGW.out).trans HY1.out
                                refine Mono.if_want (Mono.want_at (c := true) rfl rfl (Mono.dep_at hdu (i := 4) (d := 143) rfl rfl rfl) rfl) ?_
                                have z151 : a.eval (.tmp 151) = .bool true := Mono.dep_at hdu (i := 12) (d := 151) rfl rfl rfl
                                simp [Act.eval] at z151
                                have z165 : a.eval (.tmp 165) = undef := Mono.dep_at hdu (i := 26) (d := 165) rfl rfl rfl
                                simp [Act.eval] at z165
                                exact Mono.ok_val (.bool true) (by simp [execOp, z151, z165, go_sem, c0, c1, g0, g1, hkz, hnk, hni, hy1, hy2]) rfl
                              · intro a u hbu hsu hdu
                                have c0 := (hbu.cell (p := ⟨b, off + i * 4, none⟩) HBW.out).trans HX0.out; have c1 := (hbu.cell (p := ⟨b, off + i * 4 + 1, none⟩) HBW.out).trans HX1.out; have g0 := (hbu.cell (p := ⟨gt, k * 2, none⟩) HGW.out).trans HY0.out; have g1 := (hbu.cell (p := ⟨gt, k * 2 + 1, none⟩) HGW.out).trans HY1.out
                                refine Mono.if_want rfl ?_
                                have z143 : a.eval (.tmp 143) = .bool true := Mono.dep_at hdu (i := 4) (d := 143) rfl rfl rfl
                                simp [Act.eval] at z143
                                have z166 : a.eval (.tmp 166) = .bool true := Mono.dep_at hdu (i := 27) (d := 166) rfl rfl rfl
                                simp [Act.eval] at z166
                                exact Mono.ok_val (.bool true) (by simp [execOp, z143, z166, go_sem, c0, c1, g0, g1, hkz, hnk, hni, hy1, hy2]) rfl
                            intro u hu
                            simp only [Mono.Fin]
                            rintro _ rfl _ rfl _ rfl _ rfl _ rfl _ rfl _ rfl _ rfl _ rfl _ rfl _ rfl _ rfl _ rfl _ rfl _ rfl _ rfl _ rfl _ rfl _ rfl _ rfl _ rfl _ rfl _ rfl _ rfl _ rfl _ rfl _ rfl _ rfl _ rfl
                            have HB4 := Lib.hid (HBL.out.trans (hu.mono HBL.out.size))
                            clear hu
                            simp [Act.put]
                            have HKK := Lib.hid (show kC x ≠ kG y from fun e => kne_s (s := y.s) (s' := x.s) (by rw [HXS.out, HYS.out]; exact hy1) e.symm)
                            clear hy1 hy2
                            go_wp2_with fail
                            go_roundw
                            case rel => exact ⟨k + 1, by go_num, show k + 1 ≤ cn by omega, HST.out.2 HKK.out, HB4.out⟩
                            case measure => simp [intOf]; omega
                    · have hxs1 : (xs == (s : Int)) = false := by simpa using hxs
                      have hxs2 : (xs != (s : Int)) = true := by simpa using hxs
                      go_wp2_with fail
                      go_roundw
                      case rel => exact ⟨k, i + 1, rfl, by go_num, ⟨by omega, HKI.out.2⟩, (by have := HSUB.out; rw [HDC.out, ordC_cons, if_neg (by rw [HXS.out]; exact fun h => hxs h.1)] at this; exact this : (ordC (s : Int) ((al.take 20).drop (i + 1))).Sublist ((tl.drop k).map kG)), HBL.out⟩
                      case measure => simp [intOf]; omega
                  · have hicz : ¬ (i : Int) < (cn : Int) := by omega
                    have hicb : decide ((i : Int) < (cn : Int)) = false := decide_eq_false hicz
                    go_wp2_with fail
                    go_roundw
                    case rel => exact ⟨s + 1, by go_num, show s + 1 ≤ 8 by omega, HBL.out⟩
                    case measure => simp [intOf]; omega
              · have hs8z : ¬ (s : Int) < 8 := by omega
                have hs8b : decide ((s : Int) < 8) = false := decide_eq_false hs8z
                go_upto_region 40 with fail
                go_loopw [22] (fun vi wr => ∃ i : Nat, vi = .int .i64 (i : Int) ∧ Hid (i ≤ cn) ∧ Hid (Below w1.heap.size w1 wr)) (fun vi _ => cn - (intOf vi).toNat)
                case atStart => exact ⟨0, rfl, Nat.zero_le _, HBL.out⟩
                case round =>
                  clear HBL
                  obtain ⟨i, rfl, HI6, HBL⟩ := hrel
                  by_cases hic : i < cn
                  · have hicz : (i : Int) < (cn : Int) := by omega
                    have hicb : decide ((i : Int) < (cn : Int)) = true := decide_eq_true hicz
                    obtain ⟨x, hx⟩ : ∃ x, al[i]? = some x := ⟨al[i]'(by rw [HN.out]; omega), by simp⟩
                    have hni : ¬ n ≤ i := by omega
                    obtain ⟨b, off, d, rfl, hb, hra, hrd⟩ := H3.out i x hx
                    obtain ⟨pd, cd, hd, _⟩ := id hrd
                    subst hd
                    obtain ⟨L, hL⟩ : ∃ L, x.data.length = L := ⟨_, rfl⟩
                    rw [hL] at hra hrd
                    obtain ⟨xs, hxs⟩ : ∃ xs, x.s = xs := ⟨_, rfl⟩
                    obtain ⟨sx, hsx⟩ : ∃ sx, strOfNums x.data = sx := ⟨_, rfl⟩
                    have HXM := Lib.hid hx
                    have HSX := Lib.hid hsx
                    have HXS := Lib.hid hxs
                    have hr0 := hra 0 _ rfl
                    have hr1 := hra 1 _ rfl
                    rw [Nat.add_zero, hxs] at hr0
                    have HR1 := Lib.hid (And.intro hb (And.intro hr0 (And.intro hr1 hrd)))
                    clear hx hb hra hrd hL hxs hsx hr0 hr1
                    go_upto_region 44 with fail
                    go_loopw [23, 24, 25] (fun va vc vk wr => ∃ ca cc k : Nat, va = .int .i64 (ca : Int) ∧ vc = .int .i64 (cc : Int) ∧ vk = .int .i64 (k : Int) ∧ Hid (k ≤ cn ∧ ca ≤ k ∧ cc ≤ k) ∧ Hid (ca = ((tl.take k).map kG).count (kC x) ∧ cc = (((al.take 20).take k).map kC).count (kC x)) ∧ Hid (Below w1.heap.size w1 wr)) (fun _ _ vk _ => cn - (intOf vk).toNat)
                    case atStart => exact ⟨0, 0, 0, rfl, rfl, rfl, ⟨Nat.zero_le _, Nat.le_refl _, Nat.le_refl _⟩, ⟨rfl, rfl⟩, HBL.out⟩
                    case round =>
                      clear HBL
                      obtain ⟨ca, cc, k, rfl, rfl, rfl, HK7, HCC, HBL⟩ := hrel
                      have hca : ca ≤ 20 := by have := HK7.out; omega
                      have hcc : cc ≤ 20 := by have := HK7.out; omega
                      by_cases hkc : k < cn
                      · have hkz : (k : Int) < (cn : Int) := by omega
                        have hkb : decide ((k : Int) < (cn : Int)) = true := decide_eq_true hkz
                        obtain ⟨y, hy⟩ : ∃ y, tl[k]? = some y := ⟨tl[k]'(by rw [HTL.out]; exact hkc), by simp⟩
                        have hTr := OwnG.below HT1.out HBL.out
                        obtain ⟨gt, ct', egt, _, _, _, hgl⟩ := hTr.block (by rw [HTL.out]; omega)
                        rw [HTL.out] at egt
                        cases egt
                        obtain ⟨py, my, hry, hrwy⟩ := hTr.elem k y hy
                        obtain ⟨yn, hyn⟩ : ∃ yn, y.data.length = yn := ⟨_, rfl⟩
                        rw [hyn] at hry hrwy
                        obtain ⟨ys, hys⟩ : ∃ ys, y.s = ys := ⟨_, rfl⟩
                        obtain ⟨sy, hsy⟩ : ∃ sy, strOfNums y.data = sy := ⟨_, rfl⟩
                        have hy0 := hry 0 _ rfl
                        have hy1 := hry 1 _ rfl
                        rw [Nat.add_zero, hys] at hy0
                        have HYM := Lib.hid hy
                        have HSY := Lib.hid hsy
                        have HYS := Lib.hid hys
                        have HY0 := Lib.hid hy0
                        have HY1 := Lib.hid hy1
                        have HRY := Lib.hid hrwy
                        have HGW := Lib.hid hgl
                        have HB3 := Lib.hid (HB1.out.trans (HBL.out.mono HW1.out))
                        have HBW := Lib.hid (Nat.lt_of_lt_of_le HR1.out.1 HB3.out.size)
                        have HX0 := Lib.hid ((HB3.out.cell (p := ⟨b, off + i * 4, none⟩) HR1.out.1).trans HR1.out.2.1)
                        have HX1 := Lib.hid ((HB3.out.cell (p := ⟨b, off + i * 4 + 1, none⟩) HR1.out.1).trans HR1.out.2.2.1)
                        have HRX := Lib.hid (HR1.out.2.2.2.below HB3.out)
                        have hnk : ¬ cn ≤ k := by omega
                        clear hy hTr hgl hry hrwy hyn hys hsy hy0 hy1
                        obtain ⟨z, hz⟩ : ∃ z, al[k]? = some z := ⟨al[k]'(by rw [HN.out]; omega), by simp⟩
                        have hnz : ¬ n ≤ k := by omega
                        obtain ⟨b2, off2, d, e2, hb, hra, hrd⟩ := H3.out k z hz
                        cases e2
                        obtain ⟨pz, cz, hd, _⟩ := id hrd
                        subst hd
                        obtain ⟨Lz, hL⟩ : ∃ L, z.data.length = L := ⟨_, rfl⟩
                        rw [hL] at hra hrd
                        obtain ⟨zs, hzs⟩ : ∃ zs, z.s = zs := ⟨_, rfl⟩
                        obtain ⟨sz, hsz⟩ : ∃ sz, strOfNums z.data = sz := ⟨_, rfl⟩
                        have HZM := Lib.hid hz
                        have HSZ := Lib.hid hsz
                        have HZS := Lib.hid hzs
                        have hr0 := hra 0 _ rfl
                        have hr1 := hra 1 _ rfl
                        rw [Nat.add_zero, hzs] at hr0
                        have HR2 := Lib.hid (And.intro hb (And.intro hr0 (And.intro hr1 hrd)))
                        clear hz hb hra hrd hL hzs hsz hr0 hr1
                        obtain ⟨bY, hbY⟩ : ∃ bY, (kG y == kC x) = bY := ⟨_, rfl⟩
                        obtain ⟨bZ, hbZ⟩ : ∃ bZ, (kC z == kC x) = bZ := ⟨_, rfl⟩
                        have HBY := Lib.hid hbY
                        have HBZ := Lib.hid hbZ
                        clear hbY hbZ
                        obtain ⟨ca', hca'⟩ : ∃ ca', ca + (if bY = true then 1 else 0) = ca' := ⟨_, rfl⟩
                        have HCA := Lib.hid hca'
                        clear hca'
                        go_upto_region 46 with fail
                        go_cut [213] from 186 to 212 (fun v wx => v = .bool bY ∧ Hid (Below wr.heap.size wr wx))
                        case first =>
                          by_cases hey : ys = xs
                          · subst hey
                            by_cases het : (sy == sx) = true
                            · have ht1 := het
                              have ht2 : sy.toList = sx.toList := by rw [ba_beq.1 het]
                              refine Mono.wp_region_mono [some 186, some 187, some 188, some 189, some 190, some 191, some 192, some 193, some 194, some 195, some 196, some 197, some 198, some 199, some 200, some 201, some 202, some 203, some 204, some 205, some 206, some 207, some 208, some 209, some 210, some 211, some 212, some 213] [Mono.isV (.slice (some ⟨gt, 0, none⟩) cn ct), Mono.isV (.int .i64 (k : Int)), Mono.isV (.pointer (some ⟨gt, k * 2, none⟩)), Mono.isV (.pointer (some ⟨gt, k * 2, none⟩)), Mono.isV (.int .u16 ys), Mono.isV (.slice (some ⟨b, off, none⟩) n c), Mono.isV (.int .i64 (i : Int)), Mono.isV (.pointer (some ⟨b, off + i * 4, none⟩)), Mono.isV (.pointer (some ⟨b, off + i * 4, none⟩)), Mono.isV (.pointer (some ⟨b, off + i * 4, none⟩)), Mono.isV (.int .u16 ys), Mono.isV (.bool true), Mono.isV (.bool true), Mono.isV (.slice (some ⟨gt, 0, none⟩) cn ct), Mono.isV (.int .i64 (k : Int)), Mono.isV (.pointer (some ⟨gt, k * 2, none⟩)), Mono.isV (.pointer (some ⟨gt, k * 2 + 1, none⟩)), Mono.isV (.slice py yn my), Mono.isV (.string sy), Mono.isV (.slice (some ⟨b, off, none⟩) n c), Mono.isV (.int .i64 (i : Int)), Mono.isV (.pointer (some ⟨b, off + i * 4, none⟩)), Mono.isV (.pointer (some ⟨b, off + i * 4, none⟩)), Mono.isV (.pointer (some ⟨b, off + i * 4 + 1, none⟩)), Mono.isV (.slice pd L cd), Mono.isV (.string sx), Mono.isV (.bool true), Mono.isV (.bool true)] (by kernel_rfl) (by kernel_rfl) ?_ ?_
                              · simp only [Mono.OpGoals, and_true]
                                refine ⟨?_, ?_, ?_, ?_, ?_, ?_, ?_, ?_, ?_, ?_, ?_, ?_, ?_, ?_, ?_, ?_, ?_, ?_, ?_, ?_, ?_, ?_, ?_, ?_, ?_, ?_, ?_, ?_⟩
                                · intro a u hbu hsu hdu
                                  have c0 := (hbu.cell (p := ⟨b, off + i * 4, none⟩) HBW.out).trans HX0.out; have c1 := (hbu.cell (p := ⟨b, off + i * 4 + 1, none⟩) HBW.out).trans HX1.out; have g0 := (hbu.cell (p := ⟨gt, k * 2, none⟩) HGW.out).trans HY0.out; have g1 := (hbu.cell (p := ⟨gt, k * 2 + 1, none⟩) HGW.out).trans HY1.out
                                  refine Mono.if_want rfl ?_
                                  exact Mono.ok_move (.tmp 14) rfl (hsu 14 (by decide))
                                · intro a u hbu hsu hdu
                                  have c0 := (hbu.cell (p := ⟨b, off + i * 4, none⟩) HBW.out).trans HX0.out; have c1 := (hbu.cell (p := ⟨b, off + i * 4 + 1, none⟩) HBW.out).trans HX1.out; have g0 := (hbu.cell (p := ⟨gt, k * 2, none⟩) HGW.out).trans HY0.out; have g1 := (hbu.cell (p := ⟨gt, k * 2 + 1, none⟩) HGW.out).trans HY1.out
                                  refine Mono.if_want rfl ?_
                                  exact Mono.ok_move (.tmp 25) rfl (hsu 25 (by decide))
                                · intro a u hbu hsu hdu
                                  have c0 := (hbu.cell (p := ⟨b, off + i * 4, none⟩) HBW.out).trans HX0.out; have c1 := (hbu.cell (p := ⟨b, off + i * 4 + 1, none⟩) HBW.out).trans HX1.out; have g0 := (hbu.cell (p := ⟨gt, k * 2, none⟩) HGW.out).trans HY0.out; have g1 := (hbu.cell (p := ⟨gt, k * 2 + 1, none⟩) HGW.out).trans HY1.out
                                  refine Mono.if_want rfl ?_
                                  have z186 : a.eval (.tmp 186) = .slice (some ⟨gt, 0, none⟩) cn ct := Mono.dep_at hdu (i := 0) (d := 186) rfl rfl rfl
                                  simp [Act.eval] at z186
                                  have z187 : a.eval (.tmp 187) = .int .i64 (k : Int) := Mono.dep_at hdu (i := 1) (d := 187) rfl rfl rfl
                                  simp [Act.eval] at z187
                                  exact Mono.ok_val (.pointer (some ⟨gt, k * 2, none⟩)) (by simp [execOp, z186, z187, go_sem, c0, c1, g0, g1, hnk, hni, ht1, ht2]) rfl
                                · intro a u hbu hsu hdu
                                  have c0 := (hbu.cell (p := ⟨b, off + i * 4, none⟩) HBW.out).trans HX0.out; have c1 := (hbu.cell (p := ⟨b, off + i * 4 + 1, none⟩) HBW.out).trans HX1.out; have g0 := (hbu.cell (p := ⟨gt, k * 2, none⟩) HGW.out).trans HY0.out; have g1 := (hbu.cell (p := ⟨gt, k * 2 + 1, none⟩) HGW.out).trans HY1.out
                                  refine Mono.if_want rfl ?_
                                  have z188 : a.eval (.tmp 188) = .pointer (some ⟨gt, k * 2, none⟩) := Mono.dep_at hdu (i := 2) (d := 188) rfl rfl rfl
                                  simp [Act.eval] at z188
                                  exact Mono.ok_val (.pointer (some ⟨gt, k * 2, none⟩)) (by simp [execOp, z188, go_sem, c0, c1, g0, g1, hnk, hni, ht1, ht2]) rfl
                                · intro a u hbu hsu hdu
                                  have c0 := (hbu.cell (p := ⟨b, off + i * 4, none⟩) HBW.out).trans HX0.out; have c1 := (hbu.cell (p := ⟨b, off + i * 4 + 1, none⟩) HBW.out).trans HX1.out; have g0 := (hbu.cell (p := ⟨gt, k * 2, none⟩) HGW.out).trans HY0.out; have g1 := (hbu.cell (p := ⟨gt, k * 2 + 1, none⟩) HGW.out).trans HY1.out
                                  refine Mono.if_want rfl ?_
                                  have z189 : a.eval (.tmp 189) = .pointer (some ⟨gt, k * 2, none⟩) := Mono.dep_at hdu (i := 3) (d := 189) rfl rfl rfl
                                  simp [Act.eval] at z189
                                  exact Mono.ok_val (.int .u16 ys) (by simp [execOp, z189, go_sem, c0, c1, g0, g1, hnk, hni, ht1, ht2]) rfl
                                · intro a u hbu hsu hdu
                                  have c0 := (hbu.cell (p := ⟨b, off + i * 4, none⟩) HBW.out).trans HX0.out; have c1 := (hbu.cell (p := ⟨b, off + i * 4 + 1, none⟩) HBW.out).trans HX1.out; have g0 := (hbu.cell (p := ⟨gt, k * 2, none⟩) HGW.out).trans HY0.out; have g1 := (hbu.cell (p := ⟨gt, k * 2 + 1, none⟩) HGW.out).trans HY1.out
                                  refine Mono.if_want rfl ?_
                                  exact Mono.ok_move (.tmp 0) rfl (hsu 0 (by decide))
                                · intro a u hbu hsu hdu
                                  have c0 := (hbu.cell (p := ⟨b, off + i * 4, none⟩) HBW.out).trans HX0.out; have c1 := (hbu.cell (p := ⟨b, off + i * 4 + 1, none⟩) HBW.out).trans HX1.out; have g0 := (hbu.cell (p := ⟨gt, k * 2, none⟩) HGW.out).trans HY0.out; have g1 := (hbu.cell (p := ⟨gt, k * 2 + 1, none⟩) HGW.out).trans HY1.out
                                  refine Mono.if_want rfl ?_
                                  exact Mono.ok_move (.tmp 22) rfl (hsu 22 (by decide))
                                · intro a u hbu hsu hdu
                                  have c0 := (hbu.cell (p := ⟨b, off + i * 4, none⟩) HBW.out).trans HX0.out; have c1 := (hbu.cell (p := ⟨b, off + i * 4 + 1, none⟩) HBW.out).trans HX1.out; have g0 := (hbu.cell (p := ⟨gt, k * 2, none⟩) HGW.out).trans HY0.out; have g1 := (hbu.cell (p := ⟨gt, k * 2 + 1, none⟩) HGW.out).trans HY1.out
                                  refine Mono.if_want rfl ?_
                                  have z191 : a.eval (.tmp 191) = .slice (some ⟨b, off, none⟩) n c := Mono.dep_at hdu (i := 5) (d := 191) rfl rfl rfl
                                  simp [Act.eval] at z191
                                  have z192 : a.eval (.tmp 192) = .int .i64 (i : Int) := Mono.dep_at hdu (i := 6) (d := 192) rfl rfl rfl
                                  simp [Act.eval] at z192
                                  exact Mono.ok_val (.pointer (some ⟨b, off + i * 4, none⟩)) (by simp [execOp, z191, z192, go_sem, c0, c1, g0, g1, hnk, hni, ht1, ht2]) rfl
                                · intro a u hbu hsu hdu
                                  have c0 := (hbu.cell (p := ⟨b, off + i * 4, none⟩) HBW.out).trans HX0.out; have c1 := (hbu.cell (p := ⟨b, off + i * 4 + 1, none⟩) HBW.out).trans HX1.out; have g0 := (hbu.cell (p := ⟨gt, k * 2, none⟩) HGW.out).trans HY0.out; have g1 := (hbu.cell (p := ⟨gt, k * 2 + 1, none⟩) HGW.out).trans HY1.out
                                  refine Mono.if_want rfl ?_
                                  have z193 : a.eval (.tmp 193) = .pointer (some ⟨b, off + i * 4, none⟩) := Mono.dep_at hdu (i := 7) (d := 193) rfl rfl rfl
                                  simp [Act.eval] at z193
                                  exact Mono.ok_val (.pointer (some ⟨b, off + i * 4, none⟩)) (by simp [execOp, z193, go_sem, c0, c1, g0, g1, hnk, hni, ht1, ht2]) rfl
                                · intro a u hbu hsu hdu
                                  have c0 := (hbu.cell (p := ⟨b, off + i * 4, none⟩) HBW.out).trans HX0.out; have c1 := (hbu.cell (p := ⟨b, off + i * 4 + 1, none⟩) HBW.out).trans HX1.out; have g0 := (hbu.cell (p := ⟨gt, k * 2, none⟩) HGW.out).trans HY0.out; have g1 := (hbu.cell (p := ⟨gt, k * 2 + 1, none⟩) HGW.out).trans HY1.out
                                  refine Mono.if_want rfl ?_
                                  have z194 : a.eval (.tmp 194) = .pointer (some ⟨b, off + i * 4, none⟩) := Mono.dep_at hdu (i := 8) (d := 194) rfl rfl rfl
                                  simp [Act.eval] at z194
                                  exact Mono.ok_val (.pointer (some ⟨b, off + i * 4, none⟩)) (by simp [execOp, z194, go_sem, c0, c1, g0, g1, hnk, hni, ht1, ht2]) rfl
                                · intro a u hbu hsu hdu
                                  have c0 := (hbu.cell (p := ⟨b, off + i * 4, none⟩) HBW.out).trans HX0.out; have c1 := (hbu.cell (p := ⟨b, off + i * 4 + 1, none⟩) HBW.out).trans HX1.out; have g0 := (hbu.cell (p := ⟨gt, k * 2, none⟩) HGW.out).trans HY0.out; have g1 := (hbu.cell (p := ⟨gt, k * 2 + 1, none⟩) HGW.out).trans HY1.out
                                  refine Mono.if_want rfl ?_
                                  have z195 : a.eval (.tmp 195) = .pointer (some ⟨b, off + i * 4, none⟩) := Mono.dep_at hdu (i := 9) (d := 195) rfl rfl rfl
                                  simp [Act.eval] at z195
                                  exact Mono.ok_val (.int .u16 ys) (by simp [execOp, z195, go_sem, c0, c1, g0, g1, hnk, hni, ht1, ht2]) rfl
                                · intro a u hbu hsu hdu
                                  have c0 := (hbu.cell (p := ⟨b, off + i * 4, none⟩) HBW.out).trans HX0.out; have c1 := (hbu.cell (p := ⟨b, off + i * 4 + 1, none⟩) HBW.out).trans HX1.out; have g0 := (hbu.cell (p := ⟨gt, k * 2, none⟩) HGW.out).trans HY0.out; have g1 := (hbu.cell (p := ⟨gt, k * 2 + 1, none⟩) HGW.out).trans HY1.out
                                  refine Mono.if_want rfl ?_
                                  have z190 : a.eval (.tmp 190) = .int .u16 ys := Mono.dep_at hdu (i := 4) (d := 190) rfl rfl rfl
                                  simp [Act.eval] at z190
                                  have z196 : a.eval (.tmp 196) = .int .u16 ys := Mono.dep_at hdu (i := 10) (d := 196) rfl rfl rfl
                                  simp [Act.eval] at z196
                                  exact Mono.ok_val (.bool true) (by simp [execOp, z190, z196, go_sem, c0, c1, g0, g1, hnk, hni, ht1, ht2]) rfl
                                · intro a u hbu hsu hdu
                                  have c0 := (hbu.cell (p := ⟨b, off + i * 4, none⟩) HBW.out).trans HX0.out; have c1 := (hbu.cell (p := ⟨b, off + i * 4 + 1, none⟩) HBW.out).trans HX1.out; have g0 := (hbu.cell (p := ⟨gt, k * 2, none⟩) HGW.out).trans HY0.out; have g1 := (hbu.cell (p := ⟨gt, k * 2 + 1, none⟩) HGW.out).trans HY1.out
                                  refine Mono.if_want rfl ?_
                                  exact Mono.ok_move (.tmp 197) rfl (Mono.dep_at hdu (i := 11) (d := 197) rfl rfl rfl)
                                · intro a u hbu hsu hdu
                                  have c0 := (hbu.cell (p := ⟨b, off + i * 4, none⟩) HBW.out).trans HX0.out; have c1 := (hbu.cell (p := ⟨b, off + i * 4 + 1, none⟩) HBW.out).trans HX1.out; have g0 := (hbu.cell (p := ⟨gt, k * 2, none⟩) HGW.out).trans HY0.out; have g1 := (hbu.cell (p := ⟨gt, k * 2 + 1, none⟩) HGW.out).trans HY1.out
                                  refine Mono.if_want (Mono.want_at (c := true) rfl rfl (Mono.dep_at hdu (i := 12) (d := 198) rfl rfl rfl) rfl) ?_
                                  exact Mono.ok_move (.tmp 14) rfl (hsu 14 (by decide))
                                · intro a u hbu hsu hdu
                                  have c0 := (hbu.cell (p := ⟨b, off + i * 4, none⟩) HBW.out).trans HX0.out; have c1 := (hbu.cell (p := ⟨b, off + i * 4 + 1, none⟩) HBW.out).trans HX1.out; have g0 := (hbu.cell (p := ⟨gt, k * 2, none⟩) HGW.out).trans HY0.out; have g1 := (hbu.cell (p := ⟨gt, k * 2 + 1, none⟩) HGW.out).trans HY1.out
                                  refine Mono.if_want (Mono.want_at (c := true) rfl rfl (Mono.dep_at hdu (i := 12) (d := 198) rfl rfl rfl) rfl) ?_
                                  exact Mono.ok_move (.tmp 25) rfl (hsu 25 (by decide))
                                · intro a u hbu hsu hdu
                                  have c0 := (hbu.cell (p := ⟨b, off + i * 4, none⟩) HBW.out).trans HX0.out; have c1 := (hbu.cell (p := ⟨b, off + i * 4 + 1, none⟩) HBW.out).trans HX1.out; have g0 := (hbu.cell (p := ⟨gt, k * 2, none⟩) HGW.out).trans HY0.out; have g1 := (hbu.cell (p := ⟨gt, k * 2 + 1, none⟩) HGW.out).trans HY1.out
                                  refine Mono.if_want (Mono.want_at (c := true) rfl rfl (Mono.dep_at hdu (i := 12) (d := 198) rfl rfl rfl) rfl) ?_
                                  have z199 : a.eval (.tmp 199) = .slice (some ⟨gt, 0, none⟩) cn ct := Mono.dep_at hdu (i := 13) (d := 199) rfl rfl rfl
                                  simp [Act.eval] at z199
                                  have z200 : a.eval (.tmp 200) = .int .i64 (k : Int) := Mono.dep_at hdu (i := 14) (d := 200) rfl rfl rfl
                                  simp [Act.eval] at z200
                                  exact Mono.ok_val (.pointer (some ⟨gt, k * 2, none⟩)) (by simp [execOp, z199, z200, go_sem, c0, c1, g0, g1, hnk, hni, ht1, ht2]) rfl
                                · intro a u hbu hsu hdu
                                  have c0 := (hbu.cell (p := ⟨b, off + i * 4, none⟩) HBW.out).trans HX0.out; have c1 := (hbu.cell (p := ⟨b, off + i * 4 + 1, none⟩) HBW.out).trans HX1.out; have g0 := (hbu.cell (p := ⟨gt, k * 2, none⟩) HGW.out).trans HY0.out; have g1 := (hbu.cell (p := ⟨gt, k * 2 + 1, none⟩) HGW.out).trans HY1.out
                                  refine Mono.if_want (Mono.want_at (c := true) rfl rfl (Mono.dep_at hdu (i := 12) (d := 198) rfl rfl rfl) rfl) ?_
                                  have z201 : a.eval (.tmp 201) = .pointer (some ⟨gt, k * 2, none⟩) := Mono.dep_at hdu (i := 15) (d := 201) rfl rfl rfl
                                  simp [Act.eval] at z201
                                  exact Mono.ok_val (.pointer (some ⟨gt, k * 2 + 1, none⟩)) (by simp [execOp, z201, go_sem, c0, c1, g0, g1, hnk, hni, ht1, ht2]) rfl
                                · intro a u hbu hsu hdu
                                  have c0 := (hbu.cell (p := ⟨b, off + i * 4, none⟩) HBW.out).trans HX0.out; have c1 := (hbu.cell (p := ⟨b, off + i * 4 + 1, none⟩) HBW.out).trans HX1.out; have g0 := (hbu.cell (p := ⟨gt, k * 2, none⟩) HGW.out).trans HY0.out; have g1 := (hbu.cell (p := ⟨gt, k * 2 + 1, none⟩) HGW.out).trans HY1.out
                                  refine Mono.if_want (Mono.want_at (c := true) rfl rfl (Mono.dep_at hdu (i := 12) (d := 198) rfl rfl rfl) rfl) ?_
                                  have z202 : a.eval (.tmp 202) = .pointer (some ⟨gt, k * 2 + 1, none⟩) := Mono.dep_at hdu (i := 16) (d := 202) rfl rfl rfl
                                  simp [Act.eval] at z202
                                  exact Mono.ok_val (.slice py yn my) (by simp [execOp, z202, go_sem, c0, c1, g0, g1, hnk, hni, ht1, ht2]) rfl
                                · intro a u hbu hsu hdu
                                  have c0 := (hbu.cell (p := ⟨b, off + i * 4, none⟩) HBW.out).trans HX0.out; have c1 := (hbu.cell (p := ⟨b, off + i * 4 + 1, none⟩) HBW.out).trans HX1.out; have g0 := (hbu.cell (p := ⟨gt, k * 2, none⟩) HGW.out).trans HY0.out; have g1 := (hbu.cell (p := ⟨gt, k * 2 + 1, none⟩) HGW.out).trans HY1.out
                                  refine Mono.if_want (Mono.want_at (c := true) rfl rfl (Mono.dep_at hdu (i := 12) (d := 198) rfl rfl rfl) rfl) ?_
                                  have z203 : a.eval (.tmp 203) = .slice py yn my := Mono.dep_at hdu (i := 17) (d := 203) rfl rfl rfl
                                  exact Mono.ok_conv 30 9 (.tmp 203) rfl _ (by rw [z203, ← HSY.out]; exact Chunk.string30 (Row.below HRY.out hbu).reads) rfl
                                · intro a u hbu hsu hdu
                                  have c0 := (hbu.cell (p := ⟨b, off + i * 4, none⟩) HBW.out).trans HX0.out; have c1 := (hbu.cell (p := ⟨b, off + i * 4 + 1, none⟩) HBW.out).trans HX1.out; have g0 := (hbu.cell (p := ⟨gt, k * 2, none⟩) HGW.out).trans HY0.out; have g1 := (hbu.cell (p := ⟨gt, k * 2 + 1, none⟩) HGW.out).trans HY1.out
                                  refine Mono.if_want (Mono.want_at (c := true) rfl rfl (Mono.dep_at hdu (i := 12) (d := 198) rfl rfl rfl) rfl) ?_
                                  exact Mono.ok_move (.tmp 0) rfl (hsu 0 (by decide))
                                · intro a u hbu hsu hdu
                                  have c0 := (hbu.cell (p := ⟨b, off + i * 4, none⟩) HBW.out).trans HX0.out; have c1 := (hbu.cell (p := ⟨b, off + i * 4 + 1, none⟩) HBW.out).trans HX1.out; have g0 := (hbu.cell (p := ⟨gt, k * 2, none⟩) HGW.out).trans HY0.out; have g1 := (hbu.cell (p := ⟨gt, k * 2 + 1, none⟩) HGW.out).trans HY1.out
                                  refine Mono.if_want (Mono.want_at (c := true) rfl rfl (Mono.dep_at hdu (i := 12) (d := 198) rfl rfl rfl) rfl) ?_
                                  exact Mono.ok_move (.tmp 22) rfl (hsu 22 (by decide))
                                · intro a u hbu hsu hdu
                                  have c0 := (hbu.cell (p := ⟨b, off + i * 4, none⟩) HBW.out).trans HX0.out; have c1 := (hbu.cell (p := ⟨b, off + i * 4 + 1, none⟩) HBW.out).trans HX1.out; have g0 := (hbu.cell (p := ⟨gt, k * 2, none⟩) HGW.out).trans HY0.out; have g1 := (hbu.cell (p := ⟨gt, k * 2 + 1, none⟩) HGW.out).trans HY1.out
                                  refine Mono.if_want (Mono.want_at (c := true) rfl rfl (Mono.dep_at hdu (i := 12) (d := 198) rfl rfl rfl) rfl) ?_
                                  have z205 : a.eval (.tmp 205) = .slice (some ⟨b, off, none⟩) n c := Mono.dep_at hdu (i := 19) (d := 205) rfl rfl rfl
                                  simp [Act.eval] at z205
                                  have z206 : a.eval (.tmp 206) = .int .i64 (i : Int) := Mono.dep_at hdu (i := 20) (d := 206) rfl rfl rfl
                                  simp [Act.eval] at z206
                                  exact Mono.ok_val (.pointer (some ⟨b, off + i * 4, none⟩)) (by simp [execOp, z205, z206, go_sem, c0, c1, g0, g1, hnk, hni, ht1, ht2]) rfl
                                · intro a u hbu hsu hdu
                                  have c0 := (hbu.cell (p := ⟨b, off + i * 4, none⟩) HBW.out).trans HX0.out; have c1 := (hbu.cell (p := ⟨b, off + i * 4 + 1, none⟩) HBW.out).trans HX1.out; have g0 := (hbu.cell (p := ⟨gt, k * 2, none⟩) HGW.out).trans HY0.out; have g1 := (hbu.cell (p := ⟨gt, k * 2 + 1, none⟩) HGW.out).trans HY1.out
                                  refine Mono.if_want (Mono.want_at (c := true) rfl rfl (Mono.dep_at hdu (i := 12) (d := 198) rfl rfl rfl) rfl) ?_
                                  have z207 : a.eval (.tmp 207) = .pointer (some ⟨b, off + i * 4, none⟩) := Mono.dep_at hdu (i := 21) (d := 207) rfl rfl rfl
                                  simp [Act.eval] at z207
                                  exact Mono.ok_val (.pointer (some ⟨b, off + i * 4, none⟩)) (by simp [execOp, z207, go_sem, c0, c1, g0, g1, hnk, hni, ht1, ht2]) rfl
                                · intro a u hbu hsu hdu
                                  have c0 := (hbu.cell (p := ⟨b, off + i * 4, none⟩) HBW.out).trans HX0.out; have c1 := (hbu.cell (p := ⟨b, off + i * 4 + 1, none⟩) HBW.out).trans HX1.out; have g0 := (hbu.cell (p := ⟨gt, k * 2, none⟩) HGW.out).trans HY0.out; have g1 := (hbu.cell (p := ⟨gt, k * 2 + 1, none⟩) HGW.out).trans HY1.out
                                  refine Mono.if_want (Mono.want_at (c := true) rfl rfl (Mono.dep_at hdu (i := 12) (d := 198) rfl rfl rfl) rfl) ?_
                                  have z208 : a.eval (.tmp 208) = .pointer (some ⟨b, off + i * 4, none⟩) := Mono.dep_at hdu (i := 22) (d := 208) rfl rfl rfl
                                  simp [Act.eval] at z208
                                  exact Mono.ok_val (.pointer (some ⟨b, off + i * 4 + 1, none⟩)) (by simp [execOp, z208, go_sem, c0, c1, g0, g1, hnk, hni, ht1, ht2]) rfl
                                · intro a u hbu hsu hdu
                                  have c0 := (hbu.cell (p := ⟨b, off + i * 4, none⟩) HBW.out).trans HX0.out; have c1 := (hbu.cell (p := ⟨b, off + i * 4 + 1, none⟩) HBW.out).trans HX1.out; have g0 := (hbu.cell (p := ⟨gt, k * 2, none⟩) HGW.out).trans HY0.out; have g1 := (hbu.cell (p := ⟨gt, k * 2 + 1, none⟩) HGW.out).trans HY1.out
                                  refine Mono.if_want (Mono.want_at (c := true) rfl rfl (Mono.dep_at hdu (i := 12) (d := 198) rfl rfl rfl) rfl) ?_
                                  have z209 : a.eval (.tmp 209) = .pointer (some ⟨b, off + i * 4 + 1, none⟩) := Mono.dep_at hdu (i := 23) (d := 209) rfl rfl rfl
                                  simp [Act.eval] at z209
                                  exact Mono.ok_val (.slice pd L cd) (by simp [execOp, z209, go_sem, c0, c1, g0, g1, hnk, hni, ht1, ht2]) rfl
                                · intro a u hbu hsu hdu
                                  have c0 := (hbu.cell (p := ⟨b, off + i * 4, none⟩) HBW.out).trans HX0.out; have c1 := (hbu.cell (p := ⟨b, off + i * 4 + 1, none⟩) HBW.out).trans HX1.out; have g0 := (hbu.cell (p := ⟨gt, k * 2, none⟩) HGW.out).trans HY0.out; have g1 := (hbu.cell (p := ⟨gt, k * 2 + 1, none⟩) HGW.out).trans HY1.out
                                  refine Mono.if_want (Mono.want_at (c := true) rfl rfl (Mono.dep_at hdu (i := 12) (d := 198) rfl rfl rfl) rfl) ?_
                                  have z210 : a.eval (.tmp 210) = .slice pd L cd := Mono.dep_at hdu (i := 24) (d := 210) rfl rfl rfl
                                  exact Mono.ok_conv 30 9 (.tmp 210) rfl _ (by rw [z210, ← HSX.out]; exact Chunk.string30 (HRX.out.below hbu)) rfl
                                · intro a u hbu hsu hdu
                                  have c0 := (hbu.cell (p := ⟨b, off + i * 4, none⟩) HBW.out).trans HX0.out; have c1 := (hbu.cell (p := ⟨b, off + i * 4 + 1, none⟩) HBW.out).trans HX1.out; have g0 := (hbu.cell (p := ⟨gt, k * 2, none⟩) HGW.out).trans HY0.out; have g1 := (hbu.cell (p := ⟨gt, k * 2 + 1, none⟩) HGW.out).trans HY1.out
                                  refine Mono.if_want (Mono.want_at (c := true) rfl rfl (Mono.dep_at hdu (i := 12) (d := 198) rfl rfl rfl) rfl) ?_
                                  have z204 : a.eval (.tmp 204) = .string sy := Mono.dep_at hdu (i := 18) (d := 204) rfl rfl rfl
                                  simp [Act.eval] at z204
                                  have z211 : a.eval (.tmp 211) = .string sx := Mono.dep_at hdu (i := 25) (d := 211) rfl rfl rfl
                                  simp [Act.eval] at z211
                                  exact Mono.ok_val (.bool true) (by simp [execOp, z204, z211, go_sem, c0, c1, g0, g1, hnk, hni, ht1, ht2]) rfl
                                · intro a u hbu hsu hdu
                                  have c0 := (hbu.cell (p := ⟨b, off + i * 4, none⟩) HBW.out).trans HX0.out; have c1 := (hbu.cell (p := ⟨b, off + i * 4 + 1, none⟩) HBW.out).trans HX1.out; have g0 := (hbu.cell (p := ⟨gt, k * 2, none⟩) HGW.out).trans HY0.out; have g1 := (hbu.cell (p := ⟨gt, k * 2 + 1, none⟩) HGW.out).trans HY1.out
                                  refine Mono.if_want rfl ?_
                                  have z198 : a.eval (.tmp 198) = .bool true := Mono.dep_at hdu (i := 12) (d := 198) rfl rfl rfl
                                  simp [Act.eval] at z198
                                  have z212 : a.eval (.tmp 212) = .bool true := Mono.dep_at hdu (i := 26) (d := 212) rfl rfl rfl
                                  simp [Act.eval] at z212
                                  exact Mono.ok_val (.bool true) (by simp [execOp, z198, z212, go_sem, c0, c1, g0, g1, hnk, hni, ht1, ht2]) rfl
                              intro u hu
                              simp only [Mono.Fin]
                              rintro _ rfl _ rfl _ rfl _ rfl _ rfl _ rfl _ rfl _ rfl _ rfl _ rfl _ rfl _ rfl _ rfl _ rfl _ rfl _ rfl _ rfl _ rfl _ rfl _ rfl _ rfl _ rfl _ rfl _ rfl _ rfl _ rfl _ rfl _ rfl
                              have HE := Lib.hid (show bY = true by rw [← HBY.out]; show (y.s == x.s && strOfNums y.data == strOfNums x.data) = true; rw [HYS.out, HXS.out, HSY.out, HSX.out, het]; simp)
                              have HU := Lib.hid hu
                              clear hu ht1 ht2 het
                              simp [Act.put]
                              go_wp2_with fail
                              go_meet
                              exact ⟨by rw [HE.out], HU.out⟩
                            · have ht1 : (sy == sx) = false := by simpa using het
                              have ht2 : ¬ sy.toList = sx.toList := fun e => het (ba_beq.2 (tl_inj e))
                              refine Mono.wp_region_mono [some 186, some 187, some 188, some 189, some 190, some 191, some 192, some 193, some 194, some 195, some 196, some 197, some 198, some 199, some 200, some 201, some 202, some 203, some 204, some 205, some 206, some 207, some 208, some 209, some 210, some 211, some 212, some 213] [Mono.isV (.slice (some ⟨gt, 0, none⟩) cn ct), Mono.isV (.int .i64 (k : Int)), Mono.isV (.pointer (some ⟨gt, k * 2, none⟩)), Mono.isV (.pointer (some ⟨gt, k * 2, none⟩)), Mono.isV (.int .u16 ys), Mono.isV (.slice (some ⟨b, off, none⟩) n c), Mono.isV (.int .i64 (i : Int)), Mono.isV (.pointer (some ⟨b, off + i * 4, none⟩)), Mono.isV (.pointer (some ⟨b, off + i * 4, none⟩)), Mono.isV (.pointer (some ⟨b, off + i * 4, none⟩)), Mono.isV (.int .u16 ys), Mono.isV (.bool true), Mono.isV (.bool true), Mono.isV (.slice (some ⟨gt, 0, none⟩) cn ct), Mono.isV (.int .i64 (k : Int)), Mono.isV (.pointer (some ⟨gt, k * 2, none⟩)), Mono.isV (.pointer (some ⟨gt, k * 2 + 1, none⟩)), Mono.isV (.slice py yn my), Mono.isV (.string sy), Mono.isV (.slice (some ⟨b, off, none⟩) n c), Mono.isV (.int .i64 (i : Int)), Mono.isV (.pointer (some ⟨b, off + i * 4, none⟩)), Mono.isV (.pointer (some ⟨b, off + i * 4, none⟩)), Mono.isV (.pointer (some ⟨b, off + i * 4 + 1, none⟩)), Mono.isV (.slice pd L cd), Mono.isV (.string sx), Mono.isV (.bool false), Mono.isV (.bool false)] (by kernel_rfl) (by kernel_rfl) ?_ ?_
                              · simp only [Mono.OpGoals, and_true]
                                refine ⟨?_, ?_, ?_, ?_, ?_, ?_, ?_, ?_, ?_, ?_, ?_, ?_, ?_, ?_, ?_, ?_, ?_, ?_, ?_, ?_, ?_, ?_, ?_, ?_, ?_, ?_, ?_, ?_⟩
                                · intro a u hbu hsu hdu
                                  have c0 := (hbu.cell (p := ⟨b, off + i * 4, none⟩) HBW.out).trans HX0.out; have c1 := (hbu.cell (p := ⟨b, off + i * 4 + 1, none⟩) HBW.out).trans HX1.out; have g0 := (hbu.cell (p := ⟨gt, k * 2, none⟩) HGW.out).trans HY0.out; have g1 := (hbu.cell (p := ⟨gt, k * 2 + 1, none⟩) HGW.out).trans HY1.out
                                  refine Mono.if_want rfl ?_
                                  exact Mono.ok_move (.tmp 14) rfl (hsu 14 (by decide))
                                · intro a u hbu hsu hdu
                                  have c0 := (hbu.cell (p := ⟨b, off + i * 4, none⟩) HBW.out).trans HX0.out; have c1 := (hbu.cell (p := ⟨b, off + i * 4 + 1, none⟩) HBW.out).trans HX1.out; have g0 := (hbu.cell (p := ⟨gt, k * 2, none⟩) HGW.out).trans HY0.out; have g1 := (hbu.cell (p := ⟨gt, k * 2 + 1, none⟩) HGW.out).trans HY1.out
                                  refine Mono.if_want rfl ?_
                                  exact Mono.ok_move (.tmp 25) rfl (hsu 25 (by decide))
                                · intro a u hbu hsu hdu
                                  have c0 := (hbu.cell (p := ⟨b, off + i * 4, none⟩) HBW.out).trans HX0.out; have c1 := (hbu.cell (p := ⟨b, off + i * 4 + 1, none⟩) HBW.out).trans HX1.out; have g0 := (hbu.cell (p := ⟨gt, k * 2, none⟩) HGW.out).trans HY0.out; have g1 := (hbu.cell (p := ⟨gt, k * 2 + 1, none⟩) HGW.out).trans HY1.out
                                  refine Mono.if_want rfl ?_
                                  have z186 : a.eval (.tmp 186) = .slice (some ⟨gt, 0, none⟩) cn ct := Mono.dep_at hdu (i := 0) (d := 186) rfl rfl rfl
                                  simp [Act.eval] at z186
                                  have z187 : a.eval (.tmp 187) = .int .i64 (k : Int) := Mono.dep_at hdu (i := 1) (d := 187) rfl rfl rfl
                                  simp [Act.eval] at z187
                                  exact Mono.ok_val (.pointer (some ⟨gt, k * 2, none⟩)) (by simp [execOp, z186, z187, go_sem, c0, c1, g0, g1, hnk, hni, ht1, ht2]) rfl
                                · intro a u hbu hsu hdu
                                  have c0 := (hbu.cell (p := ⟨b, off + i * 4, none⟩) HBW.out).trans HX0.out; have c1 := (hbu.cell (p := ⟨b, off + i * 4 + 1, none⟩) HBW.out).trans HX1.out; have g0 := (hbu.cell (p := ⟨gt, k * 2, none⟩) HGW.out).trans HY0.out; have g1 := (hbu.cell (p := ⟨gt, k * 2 + 1, none⟩) HGW.out).trans HY1.out
                                  refine Mono.if_want rfl ?_
                                  have z188 : a.eval (.tmp 188) = .pointer (some ⟨gt, k * 2, none⟩) := Mono.dep_at hdu (i := 2) (d := 188) rfl rfl rfl
                                  simp [Act.eval] at z188
                                  exact Mono.ok_val (.pointer (some ⟨gt, k * 2, none⟩)) (by simp [execOp, z188, go_sem, c0, c1, g0, g1, hnk, hni, ht1, ht2]) rfl
                                · intro a u hbu hsu hdu
                                  have c0 := (hbu.cell (p := ⟨b, off + i * 4, none⟩) HBW.out).trans HX0.out; have c1 := (hbu.cell (p := ⟨b, off + i * 4 + 1, none⟩) HBW.out).trans HX1.out; have g0 := (hbu.cell (p := ⟨gt, k * 2, none⟩) HGW.out).trans HY0.out; have g1 := (hbu.cell (p := ⟨gt, k * 2 + 1, none⟩) HGW.out).trans HY1.out
                                  refine Mono.if_want rfl ?_
                                  have z189 : a.eval (.tmp 189) = .pointer (some ⟨gt, k * 2, none⟩) := Mono.dep_at hdu (i := 3) (d := 189) rfl rfl rfl
                                  simp [Act.eval] at z189
                                  exact Mono.ok_val (.int .u16 ys) (by simp [execOp, z189, go_sem, c0, c1, g0, g1, hnk, hni, ht1, ht2]) rfl
                                · intro a u hbu hsu hdu
                                  have c0 := (hbu.cell (p := ⟨b, off + i * 4, none⟩) HBW.out).trans HX0.out; have c1 := (hbu.cell (p := ⟨b, off + i * 4 + 1, none⟩) HBW.out).trans HX1.out; have g0 := (hbu.cell (p := ⟨gt, k * 2, none⟩) HGW.out).trans HY0.out; have g1 := (hbu.cell (p := ⟨gt, k * 2 + 1, none⟩) HGW.out).trans HY1.out
                                  refine Mono.if_want rfl ?_
                                  exact Mono.ok_move (.tmp 0) rfl (hsu 0 (by decide))
                                · intro a u hbu hsu hdu
                                  have c0 := (hbu.cell (p := ⟨b, off + i * 4, none⟩) HBW.out).trans HX0.out; have c1 := (hbu.cell (p := ⟨b, off + i * 4 + 1, none⟩) HBW.out).trans HX1.out; have g0 := (hbu.cell (p := ⟨gt, k * 2, none⟩) HGW.out).trans HY0.out; have g1 := (hbu.cell (p := ⟨gt, k * 2 + 1, none⟩) HGW.out).trans HY1.out
                                  refine Mono.if_want rfl ?_
                                  exact Mono.ok_move (.tmp 22) rfl (hsu 22 (by decide))
                                · intro a u hbu hsu hdu
                                  have c0 := (hbu.cell (p := ⟨b, off + i * 4, none⟩) HBW.out).trans HX0.out; have c1 := (hbu.cell (p := ⟨b, off + i * 4 + 1, none⟩) HBW.out).trans HX1.out; have g0 := (hbu.cell (p := ⟨gt, k * 2, none⟩) HGW.out).trans HY0.out; have g1 := (hbu.cell (p := ⟨gt, k * 2 + 1, none⟩) HGW.out).trans HY1.out
                                  refine Mono.if_want rfl ?_
                                  have z191 : a.eval (.tmp 191) = .slice (some ⟨b, off, none⟩) n c := Mono.dep_at hdu (i := 5) (d := 191) rfl rfl rfl
                                  simp [Act.eval] at z191
                                  have z192 : a.eval (.tmp 192) = .int .i64 (i : Int) := Mono.dep_at hdu (i := 6) (d := 192) rfl rfl rfl
                                  simp [Act.eval] at z192
                                  exact Mono.ok_val (.pointer (some ⟨b, off + i * 4, none⟩)) (by simp [execOp, z191, z192, go_sem, c0, c1, g0, g1, hnk, hni, ht1, ht2]) rfl
                                · intro a u hbu hsu hdu
                                  have c0 := (hbu.cell (p := ⟨b, off + i * 4, none⟩) HBW.out).trans HX0.out; have c1 := (hbu.cell (p := ⟨b, off + i * 4 + 1, none⟩) HBW.out).trans HX1.out; have g0 := (hbu.cell (p := ⟨gt, k * 2, none⟩) HGW.out).trans HY0.out; have g1 := (hbu.cell (p := ⟨gt, k * 2 + 1, none⟩) HGW.out).trans HY1.out
                                  refine Mono.if_want rfl ?_
                                  have z193 : a.eval (.tmp 193) = .pointer (some ⟨b, off + i * 4, none⟩) := Mono.dep_at hdu (i := 7) (d := 193) rfl rfl rfl
                                  simp [Act.eval] at z193
                                  exact Mono.ok_val (.pointer (some ⟨b, off + i * 4, none⟩)) (by simp [execOp, z193, go_sem, c0, c1, g0, g1, hnk, hni, ht1, ht2]) rfl
                                · intro a u hbu hsu hdu
                                  have c0 := (hbu.cell (p := ⟨b, off + i * 4, none⟩) HBW.out).trans HX0.out; have c1 := (hbu.cell (p := ⟨b, off + i * 4 + 1, none⟩) HBW.out).trans HX1.out; have g0 := (hbu.cell (p := ⟨gt, k * 2, none⟩) HGW.out).trans HY0.out; have g1 := (hbu.cell (p := ⟨gt, k * 2 + 1, none⟩) HGW.out).trans HY1.out
                                  refine Mono.if_want rfl ?_
                                  have z194 : a.eval (.tmp 194) = .pointer (some ⟨b, off + i * 4, none⟩) := Mono.dep_at hdu (i := 8) (d := 194) rfl rfl rfl
                                  simp [Act.eval] at z194
                                  exact Mono.ok_val (.pointer (some ⟨b, off + i * 4, none⟩)) (by simp [execOp, z194, go_sem, c0, c1, g0, g1, hnk, hni, ht1, ht2]) rfl
                                · intro a u hbu hsu hdu
                                  have c0 := (hbu.cell (p := ⟨b, off + i * 4, none⟩) HBW.out).trans HX0.out; have c1 := (hbu.cell (p := ⟨b, off + i * 4 + 1, none⟩) HBW.out).trans HX1.out; have g0 := (hbu.cell (p := ⟨gt, k * 2, none⟩) HGW.out).trans HY0.out; have g1 := (hbu.cell (p := ⟨gt, k * 2 + 1, none⟩) HGW.out).trans HY1.out
                                  refine Mono.if_want rfl ?_
                                  have z195 : a.eval (.tmp 195) = .pointer (some ⟨b, off + i * 4, none⟩) := Mono.dep_at hdu (i := 9) (d := 195) rfl rfl rfl
                                  simp [Act.eval] at z195
                                  exact Mono.ok_val (.int .u16 ys) (by simp [execOp, z195, go_sem, c0, c1, g0, g1, hnk, hni, ht1, ht2]) rfl
                                · intro a u hbu hsu hdu
                                  have c0 := (hbu.cell (p := ⟨b, off + i * 4, none⟩) HBW.out).trans HX0.out; have c1 := (hbu.cell (p := ⟨b, off + i * 4 + 1, none⟩) HBW.out).trans HX1.out; have g0 := (hbu.cell (p := ⟨gt, k * 2, none⟩) HGW.out).trans HY0.out; have g1 := (hbu.cell (p := ⟨gt, k * 2 + 1, none⟩) HGW.out).trans HY1.out
                                  refine Mono.if_want rfl ?_
                                  have z190 : a.eval (.tmp 190) = .int .u16 ys := Mono.dep_at hdu (i := 4) (d := 190) rfl rfl rfl
                                  simp [Act.eval] at z190
                                  have z196 : a.eval (.tmp 196) = .int .u16 ys := Mono.dep_at hdu (i := 10) (d := 196) rfl rfl rfl
                                  simp [Act.eval] at z196
                                  exact Mono.ok_val (.bool true) (by simp [execOp, z190, z196, go_sem, c0, c1, g0, g1, hnk, hni, ht1, ht2]) rfl
                                · intro a u hbu hsu hdu
                                  have c0 := (hbu.cell (p := ⟨b, off + i * 4, none⟩) HBW.out).trans HX0.out; have c1 := (hbu.cell (p := ⟨b, off + i * 4 + 1, none⟩) HBW.out).trans HX1.out; have g0 := (hbu.cell (p := ⟨gt, k * 2, none⟩) HGW.out).trans HY0.out; have g1 := (hbu.cell (p := ⟨gt, k * 2 + 1, none⟩) HGW.out).trans HY1.out
                                  refine Mono.if_want rfl ?_
                                  exact Mono.ok_move (.tmp 197) rfl (Mono.dep_at hdu (i := 11) (d := 197) rfl rfl rfl)
                                · intro a u hbu hsu hdu
                                  have c0 := (hbu.cell (p := ⟨b, off + i * 4, none⟩) HBW.out).trans HX0.out; have c1 := (hbu.cell (p := ⟨b, off + i * 4 + 1, none⟩) HBW.out).trans HX1.out; have g0 := (hbu.cell (p := ⟨gt, k * 2, none⟩) HGW.out).trans HY0.out; have g1 := (hbu.cell (p := ⟨gt, k * 2 + 1, none⟩) HGW.out).trans HY1.out
                                  refine Mono.if_want (Mono.want_at (c := true) rfl rfl (Mono.dep_at hdu (i := 12) (d := 198) rfl rfl rfl) rfl) ?_
                                  exact Mono.ok_move (.tmp 14) rfl (hsu 14 (by decide))
                                · intro a u hbu hsu hdu
                                  have c0 := (hbu.cell (p := ⟨b, off + i * 4, none⟩) HBW.out).trans HX0.out; have c1 := (hbu.cell (p := ⟨b, off + i * 4 + 1, none⟩) HBW.out).trans HX1.out; have g0 := (hbu.cell (p := ⟨gt, k * 2, none⟩) HGW.out).trans HY0.out; have g1 := (hbu.cell (p := ⟨gt, k * 2 + 1, none⟩) HGW.out).trans HY1.out
                                  refine Mono.if_want (Mono.want_at (c := true) rfl rfl (Mono.dep_at hdu (i := 12) (d := 198) rfl rfl rfl) rfl) ?_
                                  exact Mono.ok_move (.tmp 25) rfl (hsu 25 (by decide))
                                · intro a u hbu hsu hdu
                                  have c0 := (hbu.cell (p := ⟨b, off + i * 4, none⟩) HBW.out).trans HX0.out; have c1 := (hbu.cell (p := ⟨b, off + i * 4 + 1, none⟩) HBW.out).trans HX1.out; have g0 := (hbu.cell (p := ⟨gt, k * 2, none⟩) HGW.out).trans HY0.out; have g1 := (hbu.cell (p := ⟨gt, k * 2 + 1, none⟩) HGW.out).trans HY1.out
                                  refine Mono.if_want (Mono.want_at (c := true) rfl rfl (Mono.dep_at hdu (i := 12) (d := 198) rfl rfl rfl) rfl) ?_
                                  have z199 : a.eval (.tmp 199) = .slice (some ⟨gt, 0, none⟩) cn ct := Mono.dep_at hdu (i := 13) (d := 199) rfl rfl rfl
                                  simp [Act.eval] at z199
                                  have z200 : a.eval (.tmp 200) = .int .i64 (k : Int) := Mono.dep_at hdu (i := 14) (d := 200) rfl rfl rfl
                                  simp [Act.eval] at z200
                                  exact Mono.ok_val (.pointer (some ⟨gt, k * 2, none⟩)) (by simp [execOp, z199, z200, go_sem, c0, c1, g0, g1, hnk, hni, ht1, ht2]) rfl
                                · intro a u hbu hsu hdu
                                  have c0 := (hbu.cell (p := ⟨b, off + i * 4, none⟩) HBW.out).trans HX0.out; have c1 := (hbu.cell (p := ⟨b, off + i * 4 + 1, none⟩) HBW.out).trans HX1.out; have g0 := (hbu.cell (p := ⟨gt, k * 2, none⟩) HGW.out).trans HY0.out; have g1 := (hbu.cell (p := ⟨gt, k * 2 + 1, none⟩) HGW.out).trans HY1.out
                                  refine Mono.if_want (Mono.want_at (c := true) rfl rfl (Mono.dep_at hdu (i := 12) (d := 198) rfl rfl rfl) rfl) ?_
                                  have z201 : a.eval (.tmp 201) = .pointer (some ⟨gt, k * 2, none⟩) := Mono.dep_at hdu (i := 15) (d := 201) rfl rfl rfl
                                  simp [Act.eval] at z201
                                  exact Mono.ok_val (.pointer (some ⟨gt, k * 2 + 1, none⟩)) (by simp [execOp, z201, go_sem, c0, c1, g0, g1, hnk, hni, ht1, ht2]) rfl
                                · intro a u hbu hsu hdu
                                  have c0 := (hbu.cell (p := ⟨b, off + i * 4, none⟩) HBW.out).trans HX0.out; have c1 := (hbu.cell (p := ⟨b, off + i * 4 + 1, none⟩) HBW.out).trans HX1.out; have g0 := (hbu.cell (p := ⟨gt, k * 2, none⟩) HGW.out).trans HY0.out; have g1 := (hbu.cell (p := ⟨gt, k * 2 + 1, none⟩) HGW.out).trans HY1.out
                                  refine Mono.if_want (Mono.want_at (c := true) rfl rfl (Mono.dep_at hdu (i := 12) (d := 198) rfl rfl rfl) rfl) ?_
                                  have z202 : a.eval (.tmp 202) = .pointer (some ⟨gt, k * 2 + 1, none⟩) := Mono.dep_at hdu (i := 16) (d := 202) rfl rfl rfl
                                  simp [Act.eval] at z202
                                  exact Mono.ok_val (.slice py yn my) (by simp [execOp, z202, go_sem, c0, c1, g0, g1, hnk, hni, ht1, ht2]) rfl
                                · intro a u hbu hsu hdu
                                  have c0 := (hbu.cell (p := ⟨b, off + i * 4, none⟩) HBW.out).trans HX0.out; have c1 := (hbu.cell (p := ⟨b, off + i * 4 + 1, none⟩) HBW.out).trans HX1.out; have g0 := (hbu.cell (p := ⟨gt, k * 2, none⟩) HGW.out).trans HY0.out; have g1 := (hbu.cell (p := ⟨gt, k * 2 + 1, none⟩) HGW.out).trans HY1.out
                                  refine Mono.if_want (Mono.want_at (c := true) rfl rfl (Mono.dep_at hdu (i := 12) (d := 198) rfl rfl rfl) rfl) ?_
                                  have z203 : a.eval (.tmp 203) = .slice py yn my := Mono.dep_at hdu (i := 17) (d := 203) rfl rfl rfl
                                  exact Mono.ok_conv 30 9 (.tmp 203) rfl _ (by rw [z203, ← HSY.out]; exact Chunk.string30 (Row.below HRY.out hbu).reads) rfl
                                · intro a u hbu hsu hdu
                                  have c0 := (hbu.cell (p := ⟨b, off + i * 4, none⟩) HBW.out).trans HX0.out; have c1 := (hbu.cell (p := ⟨b, off + i * 4 + 1, none⟩) HBW.out).trans HX1.out; have g0 := (hbu.cell (p := ⟨gt, k * 2, none⟩) HGW.out).trans HY0.out; have g1 := (hbu.cell (p := ⟨gt, k * 2 + 1, none⟩) HGW.out).trans HY1.out
                                  refine Mono.if_want (Mono.want_at (c := true) rfl rfl (Mono.dep_at hdu (i := 12) (d := 198) rfl rfl rfl) rfl) ?_
                                  exact Mono.ok_move (.tmp 0) rfl (hsu 0 (by decide))
                                · intro a u hbu hsu hdu
                                  have c0 := (hbu.cell (p := ⟨b, off + i * 4, none⟩) HBW.out).trans HX0.out; have c1 := (hbu.cell (p := ⟨b, off + i * 4 + 1, none⟩) HBW.out).trans HX1.out; have g0 := (hbu.cell (p := ⟨gt, k * 2, none⟩) HGW.out).trans HY0.out; have g1 := (hbu.cell (p := ⟨gt, k * 2 + 1, none⟩) HGW.out).trans HY1.out
                                  refine Mono.if_want (Mono.want_at (c := true) rfl rfl (Mono.dep_at hdu (i := 12) (d := 198) rfl rfl rfl) rfl) ?_
                                  exact Mono.ok_move (.tmp 22) rfl (hsu 22 (by decide))
                                · intro a u hbu hsu hdu
                                  have c0 := (hbu.cell (p := ⟨b, off + i * 4, none⟩) HBW.out).trans HX0.out; have c1 := (hbu.cell (p := ⟨b, off + i * 4 + 1, none⟩) HBW.out).trans HX1.out; have g0 := (hbu.cell (p := ⟨gt, k * 2, none⟩) HGW.out).trans HY0.out; have g1 := (hbu.cell (p := ⟨gt, k * 2 + 1, none⟩) HGW.out).trans HY1.out
                                  refine Mono.if_want (Mono.want_at (c := true) rfl rfl (Mono.dep_at hdu (i := 12) (d := 198) rfl rfl rfl) rfl) ?_
                                  have z205 : a.eval (.tmp 205) = .slice (some ⟨b, off, none⟩) n c := Mono.dep_at hdu (i := 19) (d := 205) rfl rfl rfl
                                  simp [Act.eval] at z205
                                  have z206 : a.eval (.tmp 206) = .int .i64 (i : Int) := Mono.dep_at hdu (i := 20) (d := 206) rfl rfl rfl
                                  simp [Act.eval] at z206
                                  exact Mono.ok_val (.pointer (some ⟨b, off + i * 4, none⟩)) (by simp [execOp, z205, z206, go_sem, c0, c1, g0, g1, hnk, hni, ht1, ht2]) rfl
                                · intro a u hbu hsu hdu
                                  have c0 := (hbu.cell (p := ⟨b, off + i * 4, none⟩) HBW.out).trans HX0.out; have c1 := (hbu.cell (p := ⟨b, off + i * 4 + 1, none⟩) HBW.out).trans HX1.out; have g0 := (hbu.cell (p := ⟨gt, k * 2, none⟩) HGW.out).trans HY0.out; have g1 := (hbu.cell (p := ⟨gt, k * 2 + 1, none⟩) HGW.out).trans HY1.out
                                  refine Mono.if_want (Mono.want_at (c := true) rfl rfl (Mono.dep_at hdu (i := 12) (d := 198) rfl rfl rfl) rfl) ?_
                                  have z207 : a.eval (.tmp 207) = .pointer (some ⟨b, off + i * 4, none⟩) := Mono.dep_at hdu (i := 21) (d := 207) rfl rfl rfl
                                  simp [Act.eval] at z207
                                  exact Mono.ok_val (.pointer (some ⟨b, off + i * 4, none⟩)) (by simp [execOp, z207, go_sem, c0, c1, g0, g1, hnk, hni, ht1, ht2]) rfl
                                · intro a u hbu hsu hdu
                                  have c0 := (hbu.cell (p := ⟨b, off + i * 4, none⟩) HBW.out).trans HX0.out; have c1 := (hbu.cell (p := ⟨b, off + i * 4 + 1, none⟩) HBW.out).trans HX1.out; have g0 := (hbu.cell (p := ⟨gt, k * 2, none⟩) HGW.out).trans HY0.out; have g1 := (hbu.cell (p := ⟨gt, k * 2 + 1, none⟩) HGW.out).trans HY1.out
                                  refine Mono.if_want (Mono.want_at (c := true) rfl rfl (Mono.dep_at hdu (i := 12) (d := 198) rfl rfl rfl) rfl) ?_
                                  have z208 : a.eval (.tmp 208) = .pointer (some ⟨b, off + i * 4, none⟩) := Mono.dep_at hdu (i := 22) (d := 208) rfl rfl rfl
                                  simp [Act.eval] at z208
                                  exact Mono.ok_val (.pointer (some ⟨b, off + i * 4 + 1, none⟩)) (by simp [execOp, z208, go_sem, c0, c1, g0, g1, hnk, hni, ht1, ht2]) rfl
                                · intro a u hbu hsu hdu
                                  have c0 := (hbu.cell (p := ⟨b, off + i * 4, none⟩) HBW.out).trans HX0.out; have c1 := (hbu.cell (p := ⟨b, off + i * 4 + 1, none⟩) HBW.out).trans HX1.out; have g0 := (hbu.cell (p := ⟨gt, k * 2, none⟩) HGW.out).trans HY0.out; have g1 := (hbu.cell (p := ⟨gt, k * 2 + 1, none⟩) HGW.out).trans HY1.out
                                  refine Mono.if_want (Mono.want_at (c := true) rfl rfl (Mono.dep_at hdu (i := 12) (d := 198) rfl rfl rfl) rfl) ?_
                                  have z209 : a.eval (.tmp 209) = .pointer (some ⟨b, off + i * 4 + 1, none⟩) := Mono.dep_at hdu (i := 23) (d := 209) rfl rfl rfl
                                  simp [Act.eval] at z209
                                  exact Mono.ok_val (.slice pd L cd) (by simp [execOp, z209, go_sem, c0, c1, g0, g1, hnk, hni, ht1, ht2]) rfl
                                · intro a u hbu hsu hdu
                                  have c0 := (hbu.cell (p := ⟨b, off + i * 4, none⟩) HBW.out).trans HX0.out; have c1 := (hbu.cell (p := ⟨b, off + i * 4 + 1, none⟩) HBW.out).trans HX1.out; have g0 := (hbu.cell (p := ⟨gt, k * 2, none⟩) HGW.out).trans HY0.out; have g1 := (hbu.cell (p := ⟨gt, k * 2 + 1, none⟩) HGW.out).trans HY1.out
                                  refine Mono.if_want (Mono.want_at (c := true) rfl rfl (Mono.dep_at hdu (i := 12) (d := 198) rfl rfl rfl) rfl) ?_
                                  have z210 : a.eval (.tmp 210) = .slice pd L cd := Mono.dep_at hdu (i := 24) (d := 210) rfl rfl rfl
                                  exact Mono.ok_conv 30 9 (.tmp 210) rfl _ (by rw [z210, ← HSX.out]; exact Chunk.string30 (HRX.out.below hbu)) rfl
                                · intro a u hbu hsu hdu
                                  have c0 := (hbu.cell (p := ⟨b, off + i * 4, none⟩) HBW.out).trans HX0.out; have c1 := (hbu.cell (p := ⟨b, off + i * 4 + 1, none⟩) HBW.out).trans HX1.out; have g0 := (hbu.cell (p := ⟨gt, k * 2, none⟩) HGW.out).trans HY0.out; have g1 := (hbu.cell (p := ⟨gt, k * 2 + 1, none⟩) HGW.out).trans HY1.out
                                  refine Mono.if_want (Mono.want_at (c := true) rfl rfl (Mono.dep_at hdu (i := 12) (d := 198) rfl rfl rfl) rfl) ?_
                                  have z204 : a.eval (.tmp 204) = .string sy := Mono.dep_at hdu (i := 18) (d := 204) rfl rfl rfl
                                  simp [Act.eval] at z204
                                  have z211 : a.eval (.tmp 211) = .string sx := Mono.dep_at hdu (i := 25) (d := 211) rfl rfl rfl
                                  simp [Act.eval] at z211
                                  exact Mono.ok_val (.bool false) (by simp [execOp, z204, z211, go_sem, c0, c1, g0, g1, hnk, hni, ht1, ht2]) rfl
                                · intro a u hbu hsu hdu
                                  have c0 := (hbu.cell (p := ⟨b, off + i * 4, none⟩) HBW.out).trans HX0.out; have c1 := (hbu.cell (p := ⟨b, off + i * 4 + 1, none⟩) HBW.out).trans HX1.out; have g0 := (hbu.cell (p := ⟨gt, k * 2, none⟩) HGW.out).trans HY0.out; have g1 := (hbu.cell (p := ⟨gt, k * 2 + 1, none⟩) HGW.out).trans HY1.out
                                  refine Mono.if_want rfl ?_
                                  have z198 : a.eval (.tmp 198) = .bool true := Mono.dep_at hdu (i := 12) (d := 198) rfl rfl rfl
                                  simp [Act.eval] at z198
                                  have z212 : a.eval (.tmp 212) = .bool false := Mono.dep_at hdu (i := 26) (d := 212) rfl rfl rfl
                                  simp [Act.eval] at z212
                                  exact Mono.ok_val (.bool false) (by simp [execOp, z198, z212, go_sem, c0, c1, g0, g1, hnk, hni, ht1, ht2]) rfl
                              intro u hu
                              simp only [Mono.Fin]
                              rintro _ rfl _ rfl _ rfl _ rfl _ rfl _ rfl _ rfl _ rfl _ rfl _ rfl _ rfl _ rfl _ rfl _ rfl _ rfl _ rfl _ rfl _ rfl _ rfl _ rfl _ rfl _ rfl _ rfl _ rfl _ rfl _ rfl _ rfl _ rfl
                              have HE := Lib.hid (show bY = false by rw [← HBY.out]; show (y.s == x.s && strOfNums y.data == strOfNums x.data) = false; rw [HYS.out, HXS.out, HSY.out, HSX.out, ht1]; simp)
                              have HU := Lib.hid hu
                              clear hu ht1 ht2 het
                              simp [Act.put]
                              go_wp2_with fail
                              go_meet
                              exact ⟨by rw [HE.out], HU.out⟩
                          · have hy1 : (ys == xs) = false := by simpa using hey
                            have hy2 : (ys != xs) = true := by simpa using hey
                            refine Mono.wp_region_mono [some 186, some 187, some 188, some 189, some 190, some 191, some 192, some 193, some 194, some 195, some 196, some 197, some 198, some 199, some 200, some 201, some 202, some 203, some 204, some 205, some 206, some 207, some 208, some 209, some 210, some 211, some 212, some 213] [Mono.isV (.slice (some ⟨gt, 0, none⟩) cn ct), Mono.isV (.int .i64 (k : Int)), Mono.isV (.pointer (some ⟨gt, k * 2, none⟩)), Mono.isV (.pointer (some ⟨gt, k * 2, none⟩)), Mono.isV (.int .u16 ys), Mono.isV (.slice (some ⟨b, off, none⟩) n c), Mono.isV (.int .i64 (i : Int)), Mono.isV (.pointer (some ⟨b, off + i * 4, none⟩)), Mono.isV (.pointer (some ⟨b, off + i * 4, none⟩)), Mono.isV (.pointer (some ⟨b, off + i * 4, none⟩)), Mono.isV (.int .u16 xs), Mono.isV (.bool false), Mono.isV (.bool false), Mono.isV (undef), Mono.isV (undef), Mono.isV (undef), Mono.isV (undef), Mono.isV (undef), Mono.isV (undef), Mono.isV (undef), Mono.isV (undef), Mono.isV (undef), Mono.isV (undef), Mono.isV (undef), Mono.isV (undef), Mono.isV (undef), Mono.isV (undef), Mono.isV (.bool false)] (by kernel_rfl) (by kernel_rfl) ?_ ?_
                            · simp only [Mono.OpGoals, and_true]
                              refine ⟨?_, ?_, ?_, ?_, ?_, ?_, ?_, ?_, ?_, ?_, ?_, ?_, ?_, ?_, ?_, ?_, ?_, ?_, ?_, ?_, ?_, ?_, ?_, ?_, ?_, ?_, ?_, ?_⟩
                              · intro a u hbu hsu hdu
                                have c0 := (hbu.cell (p := ⟨b, off + i * 4, none⟩) HBW.out).trans HX0.out; have c1 := (hbu.cell (p := ⟨b, off + i * 4 + 1, none⟩) HBW.out).trans HX1.out; have g0 := (hbu.cell (p := ⟨gt, k * 2, none⟩) HGW.out).trans HY0.out; have g1 := (hbu.cell (p := ⟨gt, k * 2 + 1, none⟩) HGW.out).trans HY1.out
                                refine Mono.if_want rfl ?_
                                exact Mono.ok_move (.tmp 14) rfl (hsu 14 (by decide))
                              · intro a u hbu hsu hdu
                                have c0 := (hbu.cell (p := ⟨b, off + i * 4, none⟩) HBW.out).trans HX0.out; have c1 := (hbu.cell (p := ⟨b, off + i * 4 + 1, none⟩) HBW.out).trans HX1.out; have g0 := (hbu.cell (p := ⟨gt, k * 2, none⟩) HGW.out).trans HY0.out; have g1 := (hbu.cell (p := ⟨gt, k * 2 + 1, none⟩) HGW.out).trans HY1.out
                                refine Mono.if_want rfl ?_
                                exact Mono.ok_move (.tmp 25) rfl (hsu 25 (by decide))
                              · intro a u hbu hsu hdu
                                have c0 := (hbu.cell (p := ⟨b, off + i * 4, none⟩) HBW.out).trans HX0.out; have c1 := (hbu.cell (p := ⟨b, off + i * 4 + 1, none⟩) HBW.out).trans HX1.out; have g0 := (hbu.cell (p := ⟨gt, k * 2, none⟩) HGW.out).trans HY0.out; have g1 := (hbu.cell (p := ⟨gt, k * 2 + 1, none⟩) HGW.out).trans HY1.out
                                refine Mono.if_want rfl ?_
                                have z186 : a.eval (.tmp 186) = .slice (some ⟨gt, 0, none⟩) cn ct := Mono.dep_at hdu (i := 0) (d := 186) rfl rfl rfl
                                simp [Act.eval] at z186
                                have z187 : a.eval (.tmp 187) = .int .i64 (k : Int) := Mono.dep_at hdu (i := 1) (d := 187) rfl rfl rfl
                                simp [Act.eval] at z187
                                exact Mono.ok_val (.pointer (some ⟨gt, k * 2, none⟩)) (by simp [execOp, z186, z187, go_sem, c0, c1, g0, g1, hnk, hni, hy1, hy2]) rfl
                              · intro a u hbu hsu hdu
                                have c0 := (hbu.cell (p := ⟨b, off + i * 4, none⟩) HBW.out).trans HX0.out; have c1 := (hbu.cell (p := ⟨b, off + i * 4 + 1, none⟩) HBW.out).trans HX1.out; have g0 := (hbu.cell (p := ⟨gt, k * 2, none⟩) HGW.out).trans HY0.out; have g1 := (hbu.cell (p := ⟨gt, k * 2 + 1, none⟩) HGW.out).trans HY1.out
                                refine Mono.if_want rfl ?_
                                have z188 : a.eval (.tmp 188) = .pointer (some ⟨gt, k * 2, none⟩) := Mono.dep_at hdu (i := 2) (d := 188) rfl rfl rfl
                                simp [Act.eval] at z188
                                exact Mono.ok_val (.pointer (some ⟨gt, k * 2, none⟩)) (by simp [execOp, z188, go_sem, c0, c1, g0, g1, hnk, hni, hy1, hy2]) rfl
                              · intro a u hbu hsu hdu
                                have c0 := (hbu.cell (p := ⟨b, off + i * 4, none⟩) HBW.out).trans HX0.out; have c1 := (hbu.cell (p := ⟨b, off + i * 4 + 1, none⟩) HBW.out).trans HX1.out; have g0 := (hbu.cell (p := ⟨gt, k * 2, none⟩) HGW.out).trans HY0.out; have g1 := (hbu.cell (p := ⟨gt, k * 2 + 1, none⟩) HGW.out).trans HY1.out
                                refine Mono.if_want rfl ?_
                                have z189 : a.eval (.tmp 189) = .pointer (some ⟨gt, k * 2, none⟩) := Mono.dep_at hdu (i := 3) (d := 189) rfl rfl rfl
                                simp [Act.eval] at z189
                                exact Mono.ok_val (.int .u16 ys) (by simp [execOp, z189, go_sem, c0, c1, g0, g1, hnk, hni, hy1, hy2]) rfl
                              · intro a u hbu hsu hdu
                                have c0 := (hbu.cell (p := ⟨b, off + i * 4, none⟩) HBW.out).trans HX0.out; have c1 := (hbu.cell (p := ⟨b, off + i * 4 + 1, none⟩) HBW.out).trans HX1.out; have g0 := (hbu.cell (p := ⟨gt, k * 2, none⟩) HGW.out).trans HY0.out; have g1 := (hbu.cell (p := ⟨gt, k * 2 + 1, none⟩) HGW.out).trans HY1.out
                                refine Mono.if_want rfl ?_
                                exact Mono.ok_move (.tmp 0) rfl (hsu 0 (by decide))
                              · intro a u hbu hsu hdu
                                have c0 := (hbu.cell (p := ⟨b, off + i * 4, none⟩) HBW.out).trans HX0.out; have c1 := (hbu.cell (p := ⟨b, off + i * 4 + 1, none⟩) HBW.out).trans HX1.out; have g0 := (hbu.cell (p := ⟨gt, k * 2, none⟩) HGW.out).trans HY0.out; have g1 := (hbu.cell (p := ⟨gt, k * 2 + 1, none⟩) HGW.out).trans HY1.out
                                refine Mono.if_want rfl ?_
                                exact Mono.ok_move (.tmp 22) rfl (hsu 22 (by decide))
                              · intro a u hbu hsu hdu
                                have c0 := (hbu.cell (p := ⟨b, off + i * 4, none⟩) HBW.out).trans HX0.out; have c1 := (hbu.cell (p := ⟨b, off + i * 4 + 1, none⟩) HBW.out).trans HX1.out; have g0 := (hbu.cell (p := ⟨gt, k * 2, none⟩) HGW.out).trans HY0.out; have g1 := (hbu.cell (p := ⟨gt, k * 2 + 1, none⟩) HGW.out).trans HY1.out
                                refine Mono.if_want rfl ?_
                                have z191 : a.eval (.tmp 191) = .slice (some ⟨b, off, none⟩) n c := Mono.dep_at hdu (i := 5) (d := 191) rfl rfl rfl
                                simp [Act.eval] at z191
                                have z192 : a.eval (.tmp 192) = .int .i64 (i : Int) := Mono.dep_at hdu (i := 6) (d := 192) rfl rfl rfl
                                simp [Act.eval] at z192
                                exact Mono.ok_val (.pointer (some ⟨b, off + i * 4, none⟩)) (by simp [execOp, z191, z192, go_sem, c0, c1, g0, g1, hnk, hni, hy1, hy2]) rfl
                              · intro a u hbu hsu hdu
                                have c0 := (hbu.cell (p := ⟨b, off + i * 4, none⟩) HBW.out).trans HX0.out; have c1 := (hbu.cell (p := ⟨b, off + i * 4 + 1, none⟩) HBW.out).trans HX1.out; have g0 := (hbu.cell (p := ⟨gt, k * 2, none⟩) HGW.out).trans HY0.out; have g1 := (hbu.cell (p := ⟨gt, k * 2 + 1, none⟩) HGW.out).trans HY1.out
                                refine Mono.if_want rfl ?_
                                have z193 : a.eval (.tmp 193) = .pointer (some ⟨b, off + i * 4, none⟩) := Mono.dep_at hdu (i := 7) (d := 193) rfl rfl rfl
                                simp [Act.eval] at z193
                                exact Mono.ok_val (.pointer (some ⟨b, off + i * 4, none⟩)) (by simp [execOp, z193, go_sem, c0, c1, g0, g1, hnk, hni, hy1, hy2]) rfl
                              · intro a u hbu hsu hdu
                                have c0 := (hbu.cell (p := ⟨b, off + i * 4, none⟩) HBW.out).trans HX0.out; have c1 := (hbu.cell (p := ⟨b, off + i * 4 + 1, none⟩) HBW.out).trans HX1.out; have g0 := (hbu.cell (p := ⟨gt, k * 2, none⟩) HGW.out).trans HY0.out; have g1 := (hbu.cell (p := ⟨gt, k * 2 + 1, none⟩) HGW.out).trans HY1.out
                                refine Mono.if_want rfl ?_
                                have z194 : a.eval (.tmp 194) = .pointer (some ⟨b, off + i * 4, none⟩) := Mono.dep_at hdu (i := 8) (d := 194) rfl rfl rfl
                                simp [Act.eval] at z194
                                exact Mono.ok_val (.pointer (some ⟨b, off + i * 4, none⟩)) (by simp [execOp, z194, go_sem, c0, c1, g0, g1, hnk, hni, hy1, hy2]) rfl
                              · intro a u hbu hsu hdu
                                have c0 := (hbu.cell (p := ⟨b, off + i * 4, none⟩) HBW.out).trans HX0.out; have c1 := (hbu.cell (p := ⟨b, off + i * 4 + 1, none⟩) HBW.out).trans HX1.out; have g0 := (hbu.cell (p := ⟨gt, k * 2, none⟩) HGW.out).trans HY0.out; have g1 := (hbu.cell (p := ⟨gt, k * 2 + 1, none⟩) HGW.out).trans HY1.out
                                refine Mono.if_want rfl ?_
                                have z195 : a.eval (.tmp 195) = .pointer (some ⟨b, off + i * 4, none⟩) := Mono.dep_at hdu (i := 9) (d := 195) rfl rfl rfl
                                simp [Act.eval] at z195
                                exact Mono.ok_val (.int .u16 xs) (by simp [execOp, z195, go_sem, c0, c1, g0, g1, hnk, hni, hy1, hy2]) rfl
                              · intro a u hbu hsu hdu
                                have c0 := (hbu.cell (p := ⟨b, off + i * 4, none⟩) HBW.out).trans HX0.out; have c1 := (hbu.cell (p := ⟨b, off + i * 4 + 1, none⟩) HBW.out).trans HX1.out; have g0 := (hbu.cell (p := ⟨gt, k * 2, none⟩) HGW.out).trans HY0.out; have g1 := (hbu.cell (p := ⟨gt, k * 2 + 1, none⟩) HGW.out).trans HY1.out
                                refine Mono.if_want rfl ?_
                                have z190 : a.eval (.tmp 190) = .int .u16 ys := Mono.dep_at hdu (i := 4) (d := 190) rfl rfl rfl
                                simp [Act.eval] at z190
                                have z196 : a.eval (.tmp 196) = .int .u16 xs := Mono.dep_at hdu (i := 10) (d := 196) rfl rfl rfl
                                simp [Act.eval] at z196
                                exact Mono.ok_val (.bool false) (by simp [execOp, z190, z196, go_sem, c0, c1, g0, g1, hnk, hni, hy1, hy2]) rfl
                              · intro a u hbu hsu hdu
                                have c0 := (hbu.cell (p := ⟨b, off + i * 4, none⟩) HBW.out).trans HX0.out; have c1 := (hbu.cell (p := ⟨b, off + i * 4 + 1, none⟩) HBW.out).trans HX1.out; have g0 := (hbu.cell (p := ⟨gt, k * 2, none⟩) HGW.out).trans HY0.out; have g1 := (hbu.cell (p := ⟨gt, k * 2 + 1, none⟩) HGW.out).trans HY1.out
                                refine Mono.if_want rfl ?_
                                exact Mono.ok_move (.tmp 197) rfl (Mono.dep_at hdu (i := 11) (d := 197) rfl rfl rfl)
                              · intro a u hbu hsu hdu
                                have c0 := (hbu.cell (p := ⟨b, off + i * 4, none⟩) HBW.out).trans HX0.out; have c1 := (hbu.cell (p := ⟨b, off + i * 4 + 1, none⟩) HBW.out).trans HX1.out; have g0 := (hbu.cell (p := ⟨gt, k * 2, none⟩) HGW.out).trans HY0.out; have g1 := (hbu.cell (p := ⟨gt, k * 2 + 1, none⟩) HGW.out).trans HY1.out
                                refine Mono.if_no (Mono.want_no (c := false) rfl rfl (Mono.dep_at hdu (i := 12) (d := 198) rfl rfl rfl) rfl) ?_
                                exact rfl
                              · intro a u hbu hsu hdu
                                have c0 := (hbu.cell (p := ⟨b, off + i * 4, none⟩) HBW.out).trans HX0.out; have c1 := (hbu.cell (p := ⟨b, off + i * 4 + 1, none⟩) HBW.out).trans HX1.out; have g0 := (hbu.cell (p := ⟨gt, k * 2, none⟩) HGW.out).trans HY0.out; have g1 := (hbu.cell (p := ⟨gt, k * 2 + 1, none⟩) HGW.out).trans HY1.out
                                refine Mono.if_no (Mono.want_no (c := false) rfl rfl (Mono.dep_at hdu (i := 12) (d := 198) rfl rfl rfl) rfl) ?_
                                exact rfl
                              · intro a u hbu hsu hdu
                                have c0 := (hbu.cell (p := ⟨b, off + i * 4, none⟩) HBW.out).trans HX0.out; have c1 := (hbu.cell (p := ⟨b, off + i * 4 + 1, none⟩) HBW.out).trans HX1.out; have g0 := (hbu.cell (p := ⟨gt, k * 2, none⟩) HGW.out).trans HY0.out; have g1 := (hbu.cell (p := ⟨gt, k * 2 + 1, none⟩) HGW.out).trans HY1.out
                                refine Mono.if_no (Mono.want_no (c := false) rfl rfl (Mono.dep_at hdu (i := 12) (d := 198) rfl rfl rfl) rfl) ?_
                                exact rfl
                              · intro a u hbu hsu hdu
                                have c0 := (hbu.cell (p := ⟨b, off + i * 4, none⟩) HBW.out).trans HX0.out; have c1 := (hbu.cell (p := ⟨b, off + i * 4 + 1, none⟩) HBW.out).trans HX1.out; have g0 := (hbu.cell (p := ⟨gt, k * 2, none⟩) HGW.out).trans HY0.out; have g1 := (hbu.cell (p := ⟨gt, k * 2 + 1, none⟩) HGW.out).trans HY1.out
                                refine Mono.if_no (Mono.want_no (c := false) rfl rfl (Mono.dep_at hdu (i := 12) (d := 198) rfl rfl rfl) rfl) ?_
                                exact rfl
                              · intro a u hbu hsu hdu
                                have c0 := (hbu.cell (p := ⟨b, off + i * 4, none⟩) HBW.out).trans HX0.out; have c1 := (hbu.cell (p := ⟨b, off + i * 4 + 1, none⟩) HBW.out).trans HX1.out; have g0 := (hbu.cell (p := ⟨gt, k * 2, none⟩) HGW.out).trans HY0.out; have g1 := (hbu.cell (p := ⟨gt, k * 2 + 1, none⟩) HGW.out).trans HY1.out
                                refine Mono.if_no (Mono.want_no (c := false) rfl rfl (Mono.dep_at hdu (i := 12) (d := 198) rfl rfl rfl) rfl) ?_
                                exact rfl
                              · intro a u hbu hsu hdu
                                have c0 := (hbu.cell (p := ⟨b, off + i * 4, none⟩) HBW.out).trans HX0.out; have c1 := (hbu.cell (p := ⟨b, off + i * 4 + 1, none⟩) HBW.out).trans HX1.out; have g0 := (hbu.cell (p := ⟨gt, k * 2, none⟩) HGW.out).trans HY0.out; have g1 := (hbu.cell (p := ⟨gt, k * 2 + 1, none⟩) HGW.out).trans HY1.out
                                refine Mono.if_no (Mono.want_no (c := false) rfl rfl (Mono.dep_at hdu (i := 12) (d := 198) rfl rfl rfl) rfl) ?_
                                exact rfl
                              · intro a u hbu hsu hdu
                                have c0 := (hbu.cell (p := ⟨b, off + i * 4, none⟩) HBW.out).trans HX0.out; have c1 := (hbu.cell (p := ⟨b, off + i * 4 + 1, none⟩) HBW.out).trans HX1.out; have g0 := (hbu.cell (p := ⟨gt, k * 2, none⟩) HGW.out).trans HY0.out; have g1 := (hbu.cell (p := ⟨gt, k * 2 + 1, none⟩) HGW.out).trans HY1.out
                                refine Mono.if_no (Mono.want_no (c := false) rfl rfl (Mono.dep_at hdu (i := 12) (d := 198) rfl rfl rfl) rfl) ?_
                                exact rfl
                              · intro a u hbu hsu hdu
                                have c0 := (hbu.cell (p := ⟨b, off + i * 4, none⟩) HBW.out).trans HX0.out; have c1 := (hbu.cell (p := ⟨b, off + i * 4 + 1, none⟩) HBW.out).trans HX1.out; have g0 := (hbu.cell (p := ⟨gt, k * 2, none⟩) HGW.out).trans HY0.out; have g1 := (hbu.cell (p := ⟨gt, k * 2 + 1, none⟩) HGW.out).trans HY1.out
                                refine Mono.if_no (Mono.want_no (c := false) rfl rfl (Mono.dep_at hdu (i := 12) (d := 198) rfl rfl rfl) rfl) ?_
                                exact rfl
                              · intro a u hbu hsu hdu
                                have c0 := (hbu.cell (p := ⟨b, off + i * 4, none⟩) HBW.out).trans HX0.out; have c1 := (hbu.cell (p := ⟨b, off + i * 4 + 1, none⟩) HBW.out).trans HX1.out; have g0 := (hbu.cell (p := ⟨gt, k * 2, none⟩) HGW.out).trans HY0.out; have g1 := (hbu.cell (p := ⟨gt, k * 2 + 1, none⟩) HGW.out).trans HY1.out
                                refine Mono.if_no (Mono.want_no (c := false) rfl rfl (Mono.dep_at hdu (i := 12) (d := 198) rfl rfl rfl) rfl) ?_
                                exact rfl
                              · intro a u hbu hsu hdu
                                have c0 := (hbu.cell (p := ⟨b, off + i * 4, none⟩) HBW.out).trans HX0.out; have c1 := (hbu.cell (p := ⟨b, off + i * 4 + 1, none⟩) HBW.out).trans HX1.out; have g0 := (hbu.cell (p := ⟨gt, k * 2, none⟩) HGW.out).trans HY0.out; have g1 := (hbu.cell (p := ⟨gt, k * 2 + 1, none⟩) HGW.out).trans HY1.out
                                refine Mono.if_no (Mono.want_no (c := false) rfl rfl (Mono.dep_at hdu (i := 12) (d := 198) rfl rfl rfl) rfl) ?_
                                exact rfl
                              · intro a u hbu hsu hdu
                                have c0 := (hbu.cell (p := ⟨b, off + i * 4, none⟩) HBW.out).trans HX0.out; have c1 := (hbu.cell (p := ⟨b, off + i * 4 + 1, none⟩) HBW.out).trans HX1.out; have g0 := (hbu.cell (p := ⟨gt, k * 2, none⟩) HGW.out).trans HY0.out; have g1 := (hbu.cell (p := ⟨gt, k * 2 + 1, none⟩) HGW.out).trans HY1.out
                                refine Mono.if_no (Mono.want_no (c := false) rfl rfl (Mono.dep_at hdu (i := 12) (d := 198) rfl rfl rfl) rfl) ?_
                                exact rfl
                              · intro a u hbu hsu hdu
                                have c0 := (hbu.cell (p := ⟨b, off + i * 4, none⟩) HBW.out).trans HX0.out; have c1 := (hbu.cell (p := ⟨b, off + i * 4 + 1, none⟩) HBW.out).trans HX1.out; have g0 := (hbu.cell (p := ⟨gt, k * 2, none⟩) HGW.out).trans HY0.out; have g1 := (hbu.cell (p := ⟨gt, k * 2 + 1, none⟩) HGW.out).trans HY1.out
                                refine Mono.if_no (Mono.want_no (c := false) rfl rfl (Mono.dep_at hdu (i := 12) (d := 198) rfl rfl rfl) rfl) ?_
                                exact rfl
                              · intro a u hbu hsu hdu
                                have c0 := (hbu.cell (p := ⟨b, off + i * 4, none⟩) HBW.out).trans HX0.out; have c1 := (hbu.cell (p := ⟨b, off + i * 4 + 1, none⟩) HBW.out).trans HX1.out; have g0 := (hbu.cell (p := ⟨gt, k * 2, none⟩) HGW.out).trans HY0.out; have g1 := (hbu.cell (p := ⟨gt, k * 2 + 1, none⟩) HGW.out).trans HY1.out
                                refine Mono.if_no (Mono.want_no (c := false) rfl rfl (Mono.dep_at hdu (i := 12) (d := 198) rfl rfl rfl) rfl) ?_
                                exact rfl
                              · intro a u hbu hsu hdu
                                have c0 := (hbu.cell (p := ⟨b, off + i * 4, none⟩) HBW.out).trans HX0.out; have c1 := (hbu.cell (p := ⟨b, off + i * 4 + 1, none⟩) HBW.out).trans HX1.out; have g0 := (hbu.cell (p := ⟨gt, k * 2, none⟩) HGW.out).trans HY0.out; have g1 := (hbu.cell (p := ⟨gt, k * 2 + 1, none⟩) HGW.out).trans HY1.out
                                refine Mono.if_no (Mono.want_no (c := false) rfl rfl (Mono.dep_at hdu (i := 12) (d := 198) rfl rfl rfl) rfl) ?_
                                exact rfl
                              · intro a u hbu hsu hdu
                                have c0 := (hbu.cell (p := ⟨b, off + i * 4, none⟩) HBW.out).trans HX0.out; have c1 := (hbu.cell (p := ⟨b, off + i * 4 + 1, none⟩) HBW.out).trans HX1.out; have g0 := (hbu.cell (p := ⟨gt, k * 2, none⟩) HGW.out).trans HY0.out; have g1 := (hbu.cell (p := ⟨gt, k * 2 + 1, none⟩) HGW.out).trans HY1.out
                                refine Mono.if_want rfl ?_
                                have z198 : a.eval (.tmp 198) = .bool false := Mono.dep_at hdu (i := 12) (d := 198) rfl rfl rfl
                                simp [Act.eval] at z198
                                have z212 : a.eval (.tmp 212) = undef := Mono.dep_at hdu (i := 26) (d := 212) rfl rfl rfl
                                simp [Act.eval] at z212
                                exact Mono.ok_val (.bool false) (by simp [execOp, z198, z212, go_sem, c0, c1, g0, g1, hnk, hni, hy1, hy2]) rfl
                            intro u hu
                            simp only [Mono.Fin]
                            rintro _ rfl _ rfl _ rfl _ rfl _ rfl _ rfl _ rfl _ rfl _ rfl _ rfl _ rfl _ rfl _ rfl _ rfl _ rfl _ rfl _ rfl _ rfl _ rfl _ rfl _ rfl _ rfl _ rfl _ rfl _ rfl _ rfl _ rfl _ rfl
                            have HE := Lib.hid (show bY = false by rw [← HBY.out]; show (y.s == x.s && strOfNums y.data == strOfNums x.data) = false; rw [HYS.out, HXS.out, hy1]; simp)
                            have HU := Lib.hid hu
                            clear hu hy1 hy2
                            simp [Act.put]
                            go_wp2_with fail
                            go_meet
                            exact ⟨by rw [HE.out], HU.out⟩
                        case rest =>
                          obtain ⟨rfl, hbc⟩ := hcut
                          have HBc := Lib.hid (HBL.out.trans (hbc.out.mono HBL.out.size))
                          have HBWc := Lib.hid (Nat.lt_of_lt_of_le HBW.out hbc.out.size)
                          clear hbc HBL HX0 HX1 HRX HB3 HGW HRY HY0 HY1
                          go_upto_if 213 with fail
                          go_cut [23] from 214 to 215 (fun v wx => v = .int .i64 (ca' : Int) ∧ Hid (wc = wx))
                          case first =>
                            cases bY with
                            | true =>
                              go_wp2_with fail
                              go_meet
                              exact ⟨by rw [← HCA.out]; go_num, rfl⟩
                            | false =>
                              go_wp2_with fail
                              go_meet
                              exact ⟨by rw [← HCA.out]; rfl, rfl⟩
                          case rest =>
                            obtain ⟨rfl, hwc⟩ := hcut
                            have hwc := hwc.out
                            subst hwc
                            have HB3c := Lib.hid (HB1.out.trans (HBc.out.mono HW1.out))
                            have HX0c := Lib.hid ((HB3c.out.cell (p := ⟨b, off + i * 4, none⟩) HR1.out.1).trans HR1.out.2.1)
                            have HX1c := Lib.hid ((HB3c.out.cell (p := ⟨b, off + i * 4 + 1, none⟩) HR1.out.1).trans HR1.out.2.2.1)
                            have HRXc := Lib.hid (HR1.out.2.2.2.below HB3c.out)
                            have HZ0c := Lib.hid ((HB3c.out.cell (p := ⟨b, off + k * 4, none⟩) HR2.out.1).trans HR2.out.2.1)
                            have HZ1c := Lib.hid ((HB3c.out.cell (p := ⟨b, off + k * 4 + 1, none⟩) HR2.out.1).trans HR2.out.2.2.1)
                            have HRZc := Lib.hid (HR2.out.2.2.2.below HB3c.out)
                            go_upto_region 48 with fail
                            go_cut [245] from 216 to 244 (fun v wx => v = .bool bZ ∧ Hid (Below wc.heap.size wc wx))
                            case first =>
                              by_cases hey : zs = xs
                              · subst hey
                                by_cases het : (sz == sx) = true
                                · have ht1 := het
                                  have ht2 : sz.toList = sx.toList := by rw [ba_beq.1 het]
                                  refine Mono.wp_region_mono [some 216, some 217, some 218, some 219, some 220, some 221, some 222, some 223, some 224, some 225, some 226, some 227, some 228, some 229, some 230, some 231, some 232, some 233, some 234, some 235, some 236, some 237, some 238, some 239, some 240, some 241, some 242, some 243, some 244, some 245] [Mono.isV (.slice (some ⟨b, off, none⟩) n c), Mono.isV (.int .i64 (k : Int)), Mono.isV (.pointer (some ⟨b, off + k * 4, none⟩)), Mono.isV (.pointer (some ⟨b, off + k * 4, none⟩)), Mono.isV (.pointer (some ⟨b, off + k * 4, none⟩)), Mono.isV (.int .u16 zs), Mono.isV (.slice (some ⟨b, off, none⟩) n c), Mono.isV (.int .i64 (i : Int)), Mono.isV (.pointer (some ⟨b, off + i * 4, none⟩)), Mono.isV (.pointer (some ⟨b, off + i * 4, none⟩)), Mono.isV (.pointer (some ⟨b, off + i * 4, none⟩)), Mono.isV (.int .u16 zs), Mono.isV (.bool true), Mono.isV (.bool true), Mono.isV (.slice (some ⟨b, off, none⟩) n c), Mono.isV (.int .i64 (k : Int)), Mono.isV (.pointer (some ⟨b, off + k * 4, none⟩)), Mono.isV (.pointer (some ⟨b, off + k * 4, none⟩)), Mono.isV (.pointer (some ⟨b, off + k * 4 + 1, none⟩)), Mono.isV (.slice pz Lz cz), Mono.isV (.string sz), Mono.isV (.slice (some ⟨b, off, none⟩) n c), Mono.isV (.int .i64 (i : Int)), Mono.isV (.pointer (some ⟨b, off + i * 4, none⟩)), Mono.isV (.pointer (some ⟨b, off + i * 4, none⟩)), Mono.isV (.pointer (some ⟨b, off + i * 4 + 1, none⟩)), Mono.isV (.slice pd L cd), Mono.isV (.string sx), Mono.isV (.bool true), Mono.isV (.bool true)] (by kernel_rfl) (by kernel_rfl) ?_ ?_
                                  · simp only [Mono.OpGoals, and_true]
                                    refine ⟨?_, ?_, ?_, ?_, ?_, ?_, ?_, ?_, ?_, ?_, ?_, ?_, ?_, ?_, ?_, ?_, ?_, ?_, ?_, ?_, ?_, ?_, ?_, ?_, ?_, ?_, ?_, ?_, ?_, ?_⟩
                                    · intro a u hbu hsu hdu
                                      have c0 := (hbu.cell (p := ⟨b, off + i * 4, none⟩) HBWc.out).trans HX0c.out; have c1 := (hbu.cell (p := ⟨b, off + i * 4 + 1, none⟩) HBWc.out).trans HX1c.out; have z0 := (hbu.cell (p := ⟨b, off + k * 4, none⟩) HBWc.out).trans HZ0c.out; have z1 := (hbu.cell (p := ⟨b, off + k * 4 + 1, none⟩) HBWc.out).trans HZ1c.out
                                      refine Mono.if_want rfl ?_
                                      exact Mono.ok_move (.tmp 0) rfl (hsu 0 (by decide))
                                    · intro a u hbu hsu hdu
                                      have c0 := (hbu.cell (p := ⟨b, off + i * 4, none⟩) HBWc.out).trans HX0c.out; have c1 := (hbu.cell (p := ⟨b, off + i * 4 + 1, none⟩) HBWc.out).trans HX1c.out; have z0 := (hbu.cell (p := ⟨b, off + k * 4, none⟩) HBWc.out).trans HZ0c.out; have z1 := (hbu.cell (p := ⟨b, off + k * 4 + 1, none⟩) HBWc.out).trans HZ1c.out
                                      refine Mono.if_want rfl ?_
                                      exact Mono.ok_move (.tmp 25) rfl (hsu 25 (by decide))
                                    · intro a u hbu hsu hdu
                                      have c0 := (hbu.cell (p := ⟨b, off + i * 4, none⟩) HBWc.out).trans HX0c.out; have c1 := (hbu.cell (p := ⟨b, off + i * 4 + 1, none⟩) HBWc.out).trans HX1c.out; have z0 := (hbu.cell (p := ⟨b, off + k * 4, none⟩) HBWc.out).trans HZ0c.out; have z1 := (hbu.cell (p := ⟨b, off + k * 4 + 1, none⟩) HBWc.out).trans HZ1c.out
                                      refine Mono.if_want rfl ?_
                                      have z216 : a.eval (.tmp 216) = .slice (some ⟨b, off, none⟩) n c := Mono.dep_at hdu (i := 0) (d := 216) rfl rfl rfl
                                      simp [Act.eval] at z216
                                      have z217 : a.eval (.tmp 217) = .int .i64 (k : Int) := Mono.dep_at hdu (i := 1) (d := 217) rfl rfl rfl
                                      simp [Act.eval] at z217
                                      exact Mono.ok_val (.pointer (some ⟨b, off + k * 4, none⟩)) (by simp [execOp, z216, z217, go_sem, c0, c1, z0, z1, hnz, hni, ht1, ht2]) rfl
                                    · intro a u hbu hsu hdu
                                      have c0 := (hbu.cell (p := ⟨b, off + i * 4, none⟩) HBWc.out).trans HX0c.out; have c1 := (hbu.cell (p := ⟨b, off + i * 4 + 1, none⟩) HBWc.out).trans HX1c.out; have z0 := (hbu.cell (p := ⟨b, off + k * 4, none⟩) HBWc.out).trans HZ0c.out; have z1 := (hbu.cell (p := ⟨b, off + k * 4 + 1, none⟩) HBWc.out).trans HZ1c.out
                                      refine Mono.if_want rfl ?_
                                      have z218 : a.eval (.tmp 218) = .pointer (some ⟨b, off + k * 4, none⟩) := Mono.dep_at hdu (i := 2) (d := 218) rfl rfl rfl
                                      simp [Act.eval] at z218
                                      exact Mono.ok_val (.pointer (some ⟨b, off + k * 4, none⟩)) (by simp [execOp, z218, go_sem, c0, c1, z0, z1, hnz, hni, ht1, ht2]) rfl
                                    · intro a u hbu hsu hdu
                                      have c0 := (hbu.cell (p := ⟨b, off + i * 4, none⟩) HBWc.out).trans HX0c.out; have c1 := (hbu.cell (p := ⟨b, off + i * 4 + 1, none⟩) HBWc.out).trans HX1c.out; have z0 := (hbu.cell (p := ⟨b, off + k * 4, none⟩) HBWc.out).trans HZ0c.out; have z1 := (hbu.cell (p := ⟨b, off + k * 4 + 1, none⟩) HBWc.out).trans HZ1c.out
                                      refine Mono.if_want rfl ?_
                                      have z219 : a.eval (.tmp 219) = .pointer (some ⟨b, off + k * 4, none⟩) := Mono.dep_at hdu (i := 3) (d := 219) rfl rfl rfl
                                      simp [Act.eval] at z219
                                      exact Mono.ok_val (.pointer (some ⟨b, off + k * 4, none⟩)) (by simp [execOp, z219, go_sem, c0, c1, z0, z1, hnz, hni, ht1, ht2]) rfl
                                    · intro a u hbu hsu hdu
                                      have c0 := (hbu.cell (p := ⟨b, off + i * 4, none⟩) HBWc.out).trans HX0c.out; have c1 := (hbu.cell (p := ⟨b, off + i * 4 + 1, none⟩) HBWc.out).trans HX1c.out; have z0 := (hbu.cell (p := ⟨b, off + k * 4, none⟩) HBWc.out).trans HZ0c.out; have z1 := (hbu.cell (p := ⟨b, off + k * 4 + 1, none⟩) HBWc.out).trans HZ1c.out
                                      refine Mono.if_want rfl ?_
                                      have z220 : a.eval (.tmp 220) = .pointer (some ⟨b, off + k * 4, none⟩) := Mono.dep_at hdu (i := 4) (d := 220) rfl rfl rfl
                                      simp [Act.eval] at z220
                                      exact Mono.ok_val (.int .u16 zs) (by simp [execOp, z220, go_sem, c0, c1, z0, z1, hnz, hni, ht1, ht2]) rfl
                                    · intro a u hbu hsu hdu
                                      have c0 := (hbu.cell (p := ⟨b, off + i * 4, none⟩) HBWc.out).trans HX0c.out; have c1 := (hbu.cell (p := ⟨b, off + i * 4 + 1, none⟩) HBWc.out).trans HX1c.out; have z0 := (hbu.cell (p := ⟨b, off + k * 4, none⟩) HBWc.out).trans HZ0c.out; have z1 := (hbu.cell (p := ⟨b, off + k * 4 + 1, none⟩) HBWc.out).trans HZ1c.out
                                      refine Mono.if_want rfl ?_
                                      exact Mono.ok_move (.tmp 0) rfl (hsu 0 (by decide))
                                    · intro a u hbu hsu hdu
                                      have c0 := (hbu.cell (p := ⟨b, off + i * 4, none⟩) HBWc.out).trans HX0c.out; have c1 := (hbu.cell (p := ⟨b, off + i * 4 + 1, none⟩) HBWc.out).trans HX1c.out; have z0 := (hbu.cell (p := ⟨b, off + k * 4, none⟩) HBWc.out).trans HZ0c.out; have z1 := (hbu.cell (p := ⟨b, off + k * 4 + 1, none⟩) HBWc.out).trans HZ1c.out
                                      refine Mono.if_want rfl ?_
                                      exact Mono.ok_move (.tmp 22) rfl (hsu 22 (by decide))
                                    · intro a u hbu hsu hdu
                                      have c0 := (hbu.cell (p := ⟨b, off + i * 4, none⟩) HBWc.out).trans HX0c.out; have c1 := (hbu.cell (p := ⟨b, off + i * 4 + 1, none⟩) HBWc.out).trans HX1c.out; have z0 := (hbu.cell (p := ⟨b, off + k * 4, none⟩) HBWc.out).trans HZ0c.out; have z1 := (hbu.cell (p := ⟨b, off + k * 4 + 1, none⟩) HBWc.out).trans HZ1c.out
                                      refine Mono.if_want rfl ?_
                                      have z222 : a.eval (.tmp 222) = .slice (some ⟨b, off, none⟩) n c := Mono.dep_at hdu (i := 6) (d := 222) rfl rfl rfl
                                      simp [Act.eval] at z222
                                      have z223 : a.eval (.tmp 223) = .int .i64 (i : Int) := Mono.dep_at hdu (i := 7) (d := 223) rfl rfl rfl
                                      simp [Act.eval] at z223
                                      exact Mono.ok_val (.pointer (some ⟨b, off + i * 4, none⟩)) (by simp [execOp, z222, z223, go_sem, c0, c1, z0, z1, hnz, hni, ht1, ht2]) rfl
                                    · intro a u hbu hsu hdu
                                      have c0 := (hbu.cell (p := ⟨b, off + i * 4, none⟩) HBWc.out).trans HX0c.out; have c1 := (hbu.cell (p := ⟨b, off + i * 4 + 1, none⟩) HBWc.out).trans HX1c.out; have z0 := (hbu.cell (p := ⟨b, off + k * 4, none⟩) HBWc.out).trans HZ0c.out; have z1 := (hbu.cell (p := ⟨b, off + k * 4 + 1, none⟩) HBWc.out).trans HZ1c.out
                                      refine Mono.if_want rfl ?_
                                      have z224 : a.eval (.tmp 224) = .pointer (some ⟨b, off + i * 4, none⟩) := Mono.dep_at hdu (i := 8) (d := 224) rfl rfl rfl
                                      simp [Act.eval] at z224
                                      exact Mono.ok_val (.pointer (some ⟨b, off + i * 4, none⟩)) (by simp [execOp, z224, go_sem, c0, c1, z0, z1, hnz, hni, ht1, ht2]) rfl
                                    · intro a u hbu hsu hdu
                                      have c0 := (hbu.cell (p := ⟨b, off + i * 4, none⟩) HBWc.out).trans HX0c.out; have c1 := (hbu.cell (p := ⟨b, off + i * 4 + 1, none⟩) HBWc.out).trans HX1c.out; have z0 := (hbu.cell (p := ⟨b, off + k * 4, none⟩) HBWc.out).trans HZ0c.out; have z1 := (hbu.cell (p := ⟨b, off + k * 4 + 1, none⟩) HBWc.out).trans HZ1c.out
                                      refine Mono.if_want rfl ?_
                                      have z225 : a.eval (.tmp 225) = .pointer (some ⟨b, off + i * 4, none⟩) := Mono.dep_at hdu (i := 9) (d := 225) rfl rfl rfl
                                      simp [Act.eval] at z225
                                      exact Mono.ok_val (.pointer (some ⟨b, off + i * 4, none⟩)) (by simp [execOp, z225, go_sem, c0, c1, z0, z1, hnz, hni, ht1, ht2]) rfl
                                    · intro a u hbu hsu hdu
                                      have c0 := (hbu.cell (p := ⟨b, off + i * 4, none⟩) HBWc.out).trans HX0c.out; have c1 := (hbu.cell (p := ⟨b, off + i * 4 + 1, none⟩) HBWc.out).trans HX1c.out; have z0 := (hbu.cell (p := ⟨b, off + k * 4, none⟩) HBWc.out).trans HZ0c.out; have z1 := (hbu.cell (p := ⟨b, off + k * 4 + 1, none⟩) HBWc.out).trans HZ1c.out
                                      refine Mono.if_want rfl ?_
                                      have z226 : a.eval (.tmp 226) = .pointer (some ⟨b, off + i * 4, none⟩) := Mono.dep_at hdu (i := 10) (d := 226) rfl rfl rfl
                                      simp [Act.eval] at z226
                                      exact Mono.ok_val (.int .u16 zs) (by simp [execOp, z226, go_sem, c0, c1, z0, z1, hnz, hni, ht1, ht2]) rfl
                                    · intro a u hbu hsu hdu
                                      have c0 := (hbu.cell (p := ⟨b, off + i * 4, none⟩) HBWc.out).trans HX0c.out; have c1 := (hbu.cell (p := ⟨b, off + i * 4 + 1, none⟩) HBWc.out).trans HX1c.out; have z0 := (hbu.cell (p := ⟨b, off + k * 4, none⟩) HBWc.out).trans HZ0c.out; have z1 := (hbu.cell (p := ⟨b, off + k * 4 + 1, none⟩) HBWc.out).trans HZ1c.out
                                      refine Mono.if_want rfl ?_
                                      have z221 : a.eval (.tmp 221) = .int .u16 zs := Mono.dep_at hdu (i := 5) (d := 221) rfl rfl rfl
                                      simp [Act.eval] at z221
                                      have z227 : a.eval (.tmp 227) = .int .u16 zs := Mono.dep_at hdu (i := 11) (d := 227) rfl rfl rfl
                                      simp [Act.eval] at z227
                                      exact Mono.ok_val (.bool true) (by simp [execOp, z221, z227, go_sem, c0, c1, z0, z1, hnz, hni, ht1, ht2]) rfl
                                    · intro a u hbu hsu hdu
                                      have c0 := (hbu.cell (p := ⟨b, off + i * 4, none⟩) HBWc.out).trans HX0c.out; have c1 := (hbu.cell (p := ⟨b, off + i * 4 + 1, none⟩) HBWc.out).trans HX1c.out; have z0 := (hbu.cell (p := ⟨b, off + k * 4, none⟩) HBWc.out).trans HZ0c.out; have z1 := (hbu.cell (p := ⟨b, off + k * 4 + 1, none⟩) HBWc.out).trans HZ1c.out
                                      refine Mono.if_want rfl ?_
                                      exact Mono.ok_move (.tmp 228) rfl (Mono.dep_at hdu (i := 12) (d := 228) rfl rfl rfl)
                                    · intro a u hbu hsu hdu
                                      have c0 := (hbu.cell (p := ⟨b, off + i * 4, none⟩) HBWc.out).trans HX0c.out; have c1 := (hbu.cell (p := ⟨b, off + i * 4 + 1, none⟩) HBWc.out).trans HX1c.out; have z0 := (hbu.cell (p := ⟨b, off + k * 4, none⟩) HBWc.out).trans HZ0c.out; have z1 := (hbu.cell (p := ⟨b, off + k * 4 + 1, none⟩) HBWc.out).trans HZ1c.out
                                      refine Mono.if_want (Mono.want_at (c := true) rfl rfl (Mono.dep_at hdu (i := 13) (d := 229) rfl rfl rfl) rfl) ?_
                                      exact Mono.ok_move (.tmp 0) rfl (hsu 0 (by decide))
                                    · intro a u hbu hsu hdu
                                      have c0 := (hbu.cell (p := ⟨b, off + i * 4, none⟩) HBWc.out).trans HX0c.out; have c1 := (hbu.cell (p := ⟨b, off + i * 4 + 1, none⟩) HBWc.out).trans HX1c.out; have z0 := (hbu.cell (p := ⟨b, off + k * 4, none⟩) HBWc.out).trans HZ0c.out; have z1 := (hbu.cell (p := ⟨b, off + k * 4 + 1, none⟩) HBWc.out).trans HZ1c.out
                                      refine Mono.if_want (Mono.want_at (c := true) rfl rfl (Mono.dep_at hdu (i := 13) (d := 229) rfl rfl rfl) rfl) ?_
                                      exact Mono.ok_move (.tmp 25) rfl (hsu 25 (by decide))
                                    · intro a u hbu hsu hdu
                                      have c0 := (hbu.cell (p := ⟨b, off + i * 4, none⟩) HBWc.out).trans HX0c.out; have c1 := (hbu.cell (p := ⟨b, off + i * 4 + 1, none⟩) HBWc.out).trans HX1c.out; have z0 := (hbu.cell (p := ⟨b, off + k * 4, none⟩) HBWc.out).trans HZ0c.out; have z1 := (hbu.cell (p := ⟨b, off + k * 4 + 1, none⟩) HBWc.out).trans HZ1c.out
                                      refine Mono.if_want (Mono.want_at (c := true) rfl rfl (Mono.dep_at hdu (i := 13) (d := 229) rfl rfl rfl) rfl) ?_
                                      have z230 : a.eval (.tmp 230) = .slice (some ⟨b, off, none⟩) n c := Mono.dep_at hdu (i := 14) (d := 230) rfl rfl rfl
                                      simp [Act.eval] at z230
                                      have z231 : a.eval (.tmp 231) = .int .i64 (k : Int) := Mono.dep_at hdu (i := 15) (d := 231) rfl rfl rfl
                                      simp [Act.eval] at z231
                                      exact Mono.ok_val (.pointer (some ⟨b, off + k * 4, none⟩)) (by simp [execOp, z230, z231, go_sem, c0, c1, z0, z1, hnz, hni, ht1, ht2]) rfl
                                    · intro a u hbu hsu hdu
                                      have c0 := (hbu.cell (p := ⟨b, off + i * 4, none⟩) HBWc.out).trans HX0c.out; have c1 := (hbu.cell (p := ⟨b, off + i * 4 + 1, none⟩) HBWc.out).trans HX1c.out; have z0 := (hbu.cell (p := ⟨b, off + k * 4, none⟩) HBWc.out).trans HZ0c.out; have z1 := (hbu.cell (p := ⟨b, off + k * 4 + 1, none⟩) HBWc.out).trans HZ1c.out
                                      refine Mono.if_want (Mono.want_at (c := true) rfl rfl (Mono.dep_at hdu (i := 13) (d := 229) rfl rfl rfl) rfl) ?_
                                      have z232 : a.eval (.tmp 232) = .pointer (some ⟨b, off + k * 4, none⟩) := Mono.dep_at hdu (i := 16) (d := 232) rfl rfl rfl
                                      simp [Act.eval] at z232
                                      exact Mono.ok_val (.pointer (some ⟨b, off + k * 4, none⟩)) (by simp [execOp, z232, go_sem, c0, c1, z0, z1, hnz, hni, ht1, ht2]) rfl
                                    · intro a u hbu hsu hdu
                                      have c0 := (hbu.cell (p := ⟨b, off + i * 4, none⟩) HBWc.out).trans HX0c.out; have c1 := (hbu.cell (p := ⟨b, off + i * 4 + 1, none⟩) HBWc.out).trans HX1c.out; have z0 := (hbu.cell (p := ⟨b, off + k * 4, none⟩) HBWc.out).trans HZ0c.out; have z1 := (hbu.cell (p := ⟨b, off + k * 4 + 1, none⟩) HBWc.out).trans HZ1c.out
                                      refine Mono.if_want (Mono.want_at (c := true) rfl rfl (Mono.dep_at hdu (i := 13) (d := 229) rfl rfl rfl) rfl) ?_
                                      have z233 : a.eval (.tmp 233) = .pointer (some ⟨b, off + k * 4, none⟩) := Mono.dep_at hdu (i := 17) (d := 233) rfl rfl rfl
                                      simp [Act.eval] at z233
                                      exact Mono.ok_val (.pointer (some ⟨b, off + k * 4 + 1, none⟩)) (by simp [execOp, z233, go_sem, c0, c1, z0, z1, hnz, hni, ht1, ht2]) rfl
                                    · intro a u hbu hsu hdu
                                      have c0 := (hbu.cell (p := ⟨b, off + i * 4, none⟩) HBWc.out).trans HX0c.out; have c1 := (hbu.cell (p := ⟨b, off + i * 4 + 1, none⟩) HBWc.out).trans HX1c.out; have z0 := (hbu.cell (p := ⟨b, off + k * 4, none⟩) HBWc.out).trans HZ0c.out; have z1 := (hbu.cell (p := ⟨b, off + k * 4 + 1, none⟩) HBWc.out).trans HZ1c.out
                                      refine Mono.if_want (Mono.want_at (c := true) rfl rfl (Mono.dep_at hdu (i := 13) (d := 229) rfl rfl rfl) rfl) ?_
                                      have z234 : a.eval (.tmp 234) = .pointer (some ⟨b, off + k * 4 + 1, none⟩) := Mono.dep_at hdu (i := 18) (d := 234) rfl rfl rfl
                                      simp [Act.eval] at z234
                                      exact Mono.ok_val (.slice pz Lz cz) (by simp [execOp, z234, go_sem, c0, c1, z0, z1, hnz, hni, ht1, ht2]) rfl
                                    · intro a u hbu hsu hdu
                                      have c0 := (hbu.cell (p := ⟨b, off + i * 4, none⟩) HBWc.out).trans HX0c.out; have c1 := (hbu.cell (p := ⟨b, off + i * 4 + 1, none⟩) HBWc.out).trans HX1c.out; have z0 := (hbu.cell (p := ⟨b, off + k * 4, none⟩) HBWc.out).trans HZ0c.out; have z1 := (hbu.cell (p := ⟨b, off + k * 4 + 1, none⟩) HBWc.out).trans HZ1c.out
                                      refine Mono.if_want (Mono.want_at (c := true) rfl rfl (Mono.dep_at hdu (i := 13) (d := 229) rfl rfl rfl) rfl) ?_
                                      have z235 : a.eval (.tmp 235) = .slice pz Lz cz := Mono.dep_at hdu (i := 19) (d := 235) rfl rfl rfl
                                      exact Mono.ok_conv 30 9 (.tmp 235) rfl _ (by rw [z235, ← HSZ.out]; exact Chunk.string30 (HRZc.out.below hbu)) rfl
                                    · intro a u hbu hsu hdu
                                      have c0 := (hbu.cell (p := ⟨b, off + i * 4, none⟩) HBWc.out).trans HX0c.out; have c1 := (hbu.cell (p := ⟨b, off + i * 4 + 1, none⟩) HBWc.out).trans HX1c.out; have z0 := (hbu.cell (p := ⟨b, off + k * 4, none⟩) HBWc.out).trans HZ0c.out; have z1 := (hbu.cell (p := ⟨b, off + k * 4 + 1, none⟩) HBWc.out).trans HZ1c.out
                                      refine Mono.if_want (Mono.want_at (c := true) rfl rfl (Mono.dep_at hdu (i := 13) (d := 229) rfl rfl rfl) rfl) ?_
                                      exact Mono.ok_move (.tmp 0) rfl (hsu 0 (by decide))
                                    · intro a u hbu hsu hdu
                                      have c0 := (hbu.cell (p := ⟨b, off + i * 4, none⟩) HBWc.out).trans HX0c.out; have c1 := (hbu.cell (p := ⟨b, off + i * 4 + 1, none⟩) HBWc.out).trans HX1c.out; have z0 := (hbu.cell (p := ⟨b, off + k * 4, none⟩) HBWc.out).trans HZ0c.out; have z1 := (hbu.cell (p := ⟨b, off + k * 4 + 1, none⟩) HBWc.out).trans HZ1c.out
                                      refine Mono.if_want (Mono.want_at (c := true) rfl rfl (Mono.dep_at hdu (i := 13) (d := 229) rfl rfl rfl) rfl) ?_
                                      exact Mono.ok_move (.tmp 22) rfl (hsu 22 (by decide))
                                    · intro a u hbu hsu hdu
                                      have c0 := (hbu.cell (p := ⟨b, off + i * 4, none⟩) HBWc.out).trans HX0c.out; have c1 := (hbu.cell (p := ⟨b, off + i * 4 + 1, none⟩) HBWc.out).trans HX1c.out; have z0 := (hbu.cell (p := ⟨b, off + k * 4, none⟩) HBWc.out).trans HZ0c.out; have z1 := (hbu.cell (p := ⟨b, off + k * 4 + 1, none⟩) HBWc.out).trans HZ1c.out
                                      refine Mono.if_want (Mono.want_at (c := true) rfl rfl (Mono.dep_at hdu (i := 13) (d := 229) rfl rfl rfl) rfl) ?_
                                      have z237 : a.eval (.tmp 237) = .slice (some ⟨b, off, none⟩) n c := Mono.dep_at hdu (i := 21) (d := 237) rfl rfl rfl
                                      simp [Act.eval] at z237
                                      have z238 : a.eval (.tmp 238) = .int .i64 (i : Int) := Mono.dep_at hdu (i := 22) (d := 238) rfl rfl rfl
                                      simp [Act.eval] at z238
                                      exact Mono.ok_val (.pointer (some ⟨b, off + i * 4, none⟩)) (by simp [execOp, z237, z238, go_sem, c0, c1, z0, z1, hnz, hni, ht1, ht2]) rfl
                                    · intro a u hbu hsu hdu
                                      have c0 := (hbu.cell (p := ⟨b, off + i * 4, none⟩) HBWc.out).trans HX0c.out; have c1 := (hbu.cell (p := ⟨b, off + i * 4 + 1, none⟩) HBWc.out).trans HX1c.out; have z0 := (hbu.cell (p := ⟨b, off + k * 4, none⟩) HBWc.out).trans HZ0c.out; have z1 := (hbu.cell (p := ⟨b, off + k * 4 + 1, none⟩) HBWc.out).trans HZ1c.out
                                      refine Mono.if_want (Mono.want_at (c := true) rfl rfl (Mono.dep_at hdu (i := 13) (d := 229) rfl rfl rfl) rfl) ?_
                                      have z239 : a.eval (.tmp 239) = .pointer (some ⟨b, off + i * 4, none⟩) := Mono.dep_at hdu (i := 23) (d := 239) rfl rfl rfl
                                      simp [Act.eval] at z239
                                      exact Mono.ok_val (.pointer (some ⟨b, off + i * 4, none⟩)) (by simp [execOp, z239, go_sem, c0, c1, z0, z1, hnz, hni, ht1, ht2]) rfl
                                    · intro a u hbu hsu hdu
                                      have c0 := (hbu.cell (p := ⟨b, off + i * 4, none⟩) HBWc.out).trans HX0c.out; have c1 := (hbu.cell (p := ⟨b, off + i * 4 + 1, none⟩) HBWc.out).trans HX1c.out; have z0 := (hbu.cell (p := ⟨b, off + k * 4, none⟩) HBWc.out).trans HZ0c.out; have z1 := (hbu.cell (p := ⟨b, off + k * 4 + 1, none⟩) HBWc.out).trans HZ1c.out
                                      refine Mono.if_want (Mono.want_at (c := true) rfl rfl (Mono.dep_at hdu (i := 13) (d := 229) rfl rfl rfl) rfl) ?_
                                      have z240 : a.eval (.tmp 240) = .pointer (some ⟨b, off + i * 4, none⟩) := Mono.dep_at hdu (i := 24) (d := 240) rfl rfl rfl
                                      simp [Act.eval] at z240
                                      exact Mono.ok_val (.pointer (some ⟨b, off + i * 4 + 1, none⟩)) (by simp [execOp, z240, go_sem, c0, c1, z0, z1, hnz, hni, ht1, ht2]) rfl
                                    · intro a u hbu hsu hdu
                                      have c0 := (hbu.cell (p := ⟨b, off + i * 4, none⟩) HBWc.out).trans HX0c.out; have c1 := (hbu.cell (p := ⟨b, off + i * 4 + 1, none⟩) HBWc.out).trans HX1c.out; have z0 := (hbu.cell (p := ⟨b, off + k * 4, none⟩) HBWc.out).trans HZ0c.out; have z1 := (hbu.cell (p := ⟨b, off + k * 4 + 1, none⟩) HBWc.out).trans HZ1c.out
                                      refine Mono.if_want (Mono.want_at (c := true) rfl rfl (Mono.dep_at hdu (i := 13) (d := 229) rfl rfl rfl) rfl) ?_
                                      have z241 : a.eval (.tmp 241) = .pointer (some ⟨b, off + i * 4 + 1, none⟩) := Mono.dep_at hdu (i := 25) (d := 241) rfl rfl rfl
                                      simp [Act.eval] at z241
                                      exact Mono.ok_val (.slice pd L cd) (by simp [execOp, z241, go_sem, c0, c1, z0, z1, hnz, hni, ht1, ht2]) rfl
                                    · intro a u hbu hsu hdu
                                      have c0 := (hbu.cell (p := ⟨b, off + i * 4, none⟩) HBWc.out).trans HX0c.out; have c1 := (hbu.cell (p := ⟨b, off + i * 4 + 1, none⟩) HBWc.out).trans HX1c.out; have z0 := (hbu.cell (p := ⟨b, off + k * 4, none⟩) HBWc.out).trans HZ0c.out; have z1 := (hbu.cell (p := ⟨b, off + k * 4 + 1, none⟩) HBWc.out).trans HZ1c.out
                                      refine Mono.if_want (Mono.want_at (c := true) rfl rfl (Mono.dep_at hdu (i := 13) (d := 229) rfl rfl rfl) rfl) ?_
                                      have z242 : a.eval (.tmp 242) = .slice pd L cd := Mono.dep_at hdu (i := 26) (d := 242) rfl rfl rfl
                                      exact Mono.ok_conv 30 9 (.tmp 242) rfl _ (by rw [z242, ← HSX.out]; exact Chunk.string30 (HRXc.out.below hbu)) rfl
                                    · intro a u hbu hsu hdu
                                      have c0 := (hbu.cell (p := ⟨b, off + i * 4, none⟩) HBWc.out).trans HX0c.out; have c1 := (hbu.cell (p := ⟨b, off + i * 4 + 1, none⟩) HBWc.out).trans HX1c.out; have z0 := (hbu.cell (p := ⟨b, off + k * 4, none⟩) HBWc.out).trans HZ0c.out; have z1 := (hbu.cell (p := ⟨b, off + k * 4 + 1, none⟩) HBWc.out).trans HZ1c.out
                                      refine Mono.if_want (Mono.want_at (c := true) rfl rfl (Mono.dep_at hdu (i := 13) (d := 229) rfl rfl rfl) rfl) ?_
                                      have z236 : a.eval (.tmp 236) = .string sz := Mono.dep_at hdu (i := 20) (d := 236) rfl rfl rfl
                                      simp [Act.eval] at z236
                                      have z243 : a.eval (.tmp 243) = .string sx := Mono.dep_at hdu (i := 27) (d := 243) rfl rfl rfl
                                      simp [Act.eval] at z243
                                      exact Mono.ok_val (.bool true) (by simp [execOp, z236, z243, go_sem, c0, c1, z0, z1, hnz, hni, ht1, ht2]) rfl
                                    · intro a u hbu hsu hdu
                                      have c0 := (hbu.cell (p := ⟨b, off + i * 4, none⟩) HBWc.out).trans HX0c.out; have c1 := (hbu.cell (p := ⟨b, off + i * 4 + 1, none⟩) HBWc.out).trans HX1c.out; have z0 := (hbu.cell (p := ⟨b, off + k * 4, none⟩) HBWc.out).trans HZ0c.out; have z1 := (hbu.cell (p := ⟨b, off + k * 4 + 1, none⟩) HBWc.out).trans HZ1c.out
                                      refine Mono.if_want rfl ?_
                                      have z229 : a.eval (.tmp 229) = .bool true := Mono.dep_at hdu (i := 13) (d := 229) rfl rfl rfl
                                      simp [Act.eval] at z229
                                      have z244 : a.eval (.tmp 244) = .bool true := Mono.dep_at hdu (i := 28) (d := 244) rfl rfl rfl
                                      simp [Act.eval] at z244
                                      exact Mono.ok_val (.bool true) (by simp [execOp, z229, z244, go_sem, c0, c1, z0, z1, hnz, hni, ht1, ht2]) rfl
                                  intro u hu
                                  simp only [Mono.Fin]
                                  rintro _ rfl _ rfl _ rfl _ rfl _ rfl _ rfl _ rfl _ rfl _ rfl _ rfl _ rfl _ rfl _ rfl _ rfl _ rfl _ rfl _ rfl _ rfl _ rfl _ rfl _ rfl _ rfl _ rfl _ rfl _ rfl _ rfl _ rfl _ rfl _ rfl _ rfl
                                  have HE := Lib.hid (show bZ = true by rw [← HBZ.out]; show (z.s == x.s && strOfNums z.data == strOfNums x.data) = true; rw [HZS.out, HXS.out, HSZ.out, HSX.out, het]; simp)
                                  have HU := Lib.hid hu
                                  clear hu ht1 ht2 het
                                  simp [Act.put]
                                  go_wp2_with fail
                                  go_meet
                                  exact ⟨by rw [HE.out], HU.out⟩
                                · have ht1 : (sz == sx) = false := by simpa using het
                                  have ht2 : ¬ sz.toList = sx.toList := fun e => het (ba_beq.2 (tl_inj e))
                                  refine Mono.wp_region_mono [some 216, some 217, some 218, some 219, some 220, some 221, some 222, some 223, some 224, some 225, some 226, some 227, some 228, some 229, some 230, some 231, some 232, some 233, some 234, some 235, some 236, some 237, some 238, some 239, some 240, some 241, some 242, some 243, some 244, some 245] [Mono.isV (.slice (some ⟨b, off, none⟩) n c), Mono.isV (.int .i64 (k : Int)), Mono.isV (.pointer (some ⟨b, off + k * 4, none⟩)), Mono.isV (.pointer (some ⟨b, off + k * 4, none⟩)), Mono.isV (.pointer (some ⟨b, off + k * 4, none⟩)), Mono.isV (.int .u16 zs), Mono.isV (.slice (some ⟨b, off, none⟩) n c), Mono.isV (.int .i64 (i : Int)), Mono.isV (.pointer (some ⟨b, off + i * 4, none⟩)), Mono.isV (.pointer (some ⟨b, off + i * 4, none⟩)), Mono.isV (.pointer (some ⟨b, off + i * 4, none⟩)), Mono.isV (.int .u16 zs), Mono.isV (.bool true), Mono.isV (.bool true), Mono.isV (.slice (some ⟨b, off, none⟩) n c), Mono.isV (.int .i64 (k : Int)), Mono.isV (.pointer (some ⟨b, off + k * 4, none⟩)), Mono.isV (.pointer (some ⟨b, off + k * 4, none⟩)), Mono.isV (.pointer (some ⟨b, off + k * 4 + 1, none⟩)), Mono.isV (.slice pz Lz cz), Mono.isV (.string sz), Mono.isV (.slice (some ⟨b, off, none⟩) n c), Mono.isV (.int .i64 (i : Int)), Mono.isV (.pointer (some ⟨b, off + i * 4, none⟩)), Mono.isV (.pointer (some ⟨b, off + i * 4, none⟩)), Mono.isV (.pointer (some ⟨b, off + i * 4 + 1, none⟩)), Mono.isV (.slice pd L cd), Mono.isV (.string sx), Mono.isV (.bool false), Mono.isV (.bool false)] (by kernel_rfl) (by kernel_rfl) ?_ ?_
                                  · simp only [Mono.OpGoals, and_true]
                                    refine ⟨?_, ?_, ?_, ?_, ?_, ?_, ?_, ?_, ?_, ?_, ?_, ?_, ?_, ?_, ?_, ?_, ?_, ?_, ?_, ?_, ?_, ?_, ?_, ?_, ?_, ?_, ?_, ?_, ?_, ?_⟩
                                    · intro a u hbu hsu hdu
                                      have c0 := (hbu.cell (p := ⟨b, off + i * 4, none⟩) HBWc.out).trans HX0c.out; have c1 := (hbu.cell (p := ⟨b, off + i * 4 + 1, none⟩) HBWc.out).trans HX1c.out; have z0 := (hbu.cell (p := ⟨b, off + k * 4, none⟩) HBWc.out).trans HZ0c.out; have z1 := (hbu.cell (p := ⟨b, off + k * 4 + 1, none⟩) HBWc.out).trans HZ1c.out
                                      refine Mono.if_want rfl ?_
                                      exact Mono.ok_move (.tmp 0) rfl (hsu 0 (by decide))
                                    · intro a u hbu hsu hdu
                                      have c0 := (hbu.cell (p := ⟨b, off + i * 4, none⟩) HBWc.out).trans HX0c.out; have c1 := (hbu.cell (p := ⟨b, off + i * 4 + 1, none⟩) HBWc.out).trans HX1c.out; have z0 := (hbu.cell (p := ⟨b, off + k * 4, none⟩) HBWc.out).trans HZ0c.out; have z1 := (hbu.cell (p := ⟨b, off + k * 4 + 1, none⟩) HBWc.out).trans HZ1c.out
                                      refine Mono.if_want rfl ?_
                                      exact Mono.ok_move (.tmp 25) rfl (hsu 25 (by decide))
                                    · intro a u hbu hsu hdu
                                      have c0 := (hbu.cell (p := ⟨b, off + i * 4, none⟩) HBWc.out).trans HX0c.out; have c1 := (hbu.cell (p := ⟨b, off + i * 4 + 1, none⟩) HBWc.out).trans HX1c.out; have z0 := (hbu.cell (p := ⟨b, off + k * 4, none⟩) HBWc.out).trans HZ0c.out; have z1 := (hbu.cell (p := ⟨b, off + k * 4 + 1, none⟩) HBWc.out).trans HZ1c.out
                                      refine Mono.if_want rfl ?_
                                      have z216 : a.eval (.tmp 216) = .slice (some ⟨b, off, none⟩) n c := Mono.dep_at hdu (i := 0) (d := 216) rfl rfl rfl
                                      simp [Act.eval] at z216
                                      have z217 : a.eval (.tmp 217) = .int .i64 (k : Int) := Mono.dep_at hdu (i := 1) (d := 217) rfl rfl rfl
                                      simp [Act.eval] at z217
                                      exact Mono.ok_val (.pointer (some ⟨b, off + k * 4, none⟩)) (by simp [execOp, z216, z217, go_sem, c0, c1, z0, z1, hnz, hni, ht1, ht2]) rfl
                                    · intro a u hbu hsu hdu
                                      have c0 := (hbu.cell (p := ⟨b, off + i * 4, none⟩) HBWc.out).trans HX0c.out; have c1 := (hbu.cell (p := ⟨b, off + i * 4 + 1, none⟩) HBWc.out).trans HX1c.out; have z0 := (hbu.cell (p := ⟨b, off + k * 4, none⟩) HBWc.out).trans HZ0c.out; have z1 := (hbu.cell (p := ⟨b, off + k * 4 + 1, none⟩) HBWc.out).trans HZ1c.out
                                      refine Mono.if_want rfl ?_
                                      have z218 : a.eval (.tmp 218) = .pointer (some ⟨b, off + k * 4, none⟩) := Mono.dep_at hdu (i := 2) (d := 218) rfl rfl rfl
                                      simp [Act.eval] at z218
                                      exact Mono.ok_val (.pointer (some ⟨b, off + k * 4, none⟩)) (by simp [execOp, z218, go_sem, c0, c1, z0, z1, hnz, hni, ht1, ht2]) rfl
                                    · intro a u hbu hsu hdu
                                      have c0 := (hbu.cell (p := ⟨b, off + i * 4, none⟩) HBWc.out).trans HX0c.out; have c1 := (hbu.cell (p := ⟨b, off + i * 4 + 1, none⟩) HBWc.out).trans HX1c.out; have z0 := (hbu.cell (p := ⟨b, off + k * 4, none⟩) HBWc.out).trans HZ0c.out; have z1 := (hbu.cell (p := ⟨b, off + k * 4 + 1, none⟩) HBWc.out).trans HZ1c.out
                                      refine Mono.if_want rfl ?_
                                      have z219 : a.eval (.tmp 219) = .pointer (some ⟨b, off + k * 4, none⟩) := Mono.dep_at hdu (i := 3) (d := 219) rfl rfl rfl
                                      simp [Act.eval] at z219
                                      exact Mono.ok_val (.pointer (some ⟨b, off + k * 4, none⟩)) (by simp [execOp, z219, go_sem, c0, c1, z0, z1, hnz, hni, ht1, ht2]) rfl
                                    · intro a u hbu hsu hdu
                                      have c0 := (hbu.cell (p := ⟨b, off + i * 4, none⟩) HBWc.out).trans HX0c.out; have c1 := (hbu.cell (p := ⟨b, off + i * 4 + 1, none⟩) HBWc.out).trans HX1c.out; have z0 := (hbu.cell (p := ⟨b, off + k * 4, none⟩) HBWc.out).trans HZ0c.out; have z1 := (hbu.cell (p := ⟨b, off + k * 4 + 1, none⟩) HBWc.out).trans HZ1c.out
                                      refine Mono.if_want rfl ?_
                                      have z220 : a.eval (.tmp 220) = .pointer (some ⟨b, off + k * 4, none⟩) := Mono.dep_at hdu (i := 4) (d := 220) rfl rfl rfl
                                      simp [Act.eval] at z220
                                      exact Mono.ok_val (.int .u16 zs) (by simp [execOp, z220, go_sem, c0, c1, z0, z1, hnz, hni, ht1, ht2]) rfl
                                    · intro a u hbu hsu hdu
                                      have c0 := (hbu.cell (p := ⟨b, off + i * 4, none⟩) HBWc.out).trans HX0c.out; have c1 := (hbu.cell (p := ⟨b, off + i * 4 + 1, none⟩) HBWc.out).trans HX1c.out; have z0 := (hbu.cell (p := ⟨b, off + k * 4, none⟩) HBWc.out).trans HZ0c.out; have z1 := (hbu.cell (p := ⟨b, off + k * 4 + 1, none⟩) HBWc.out).trans HZ1c.out
                                      refine Mono.if_want rfl ?_
                                      exact Mono.ok_move (.tmp 0) rfl (hsu 0 (by decide))
                                    · intro a u hbu hsu hdu
                                      have c0 := (hbu.cell (p := ⟨b, off + i * 4, none⟩) HBWc.out).trans HX0c.out; have c1 := (hbu.cell (p := ⟨b, off + i * 4 + 1, none⟩) HBWc.out).trans HX1c.out; have z0 := (hbu.cell (p := ⟨b, off + k * 4, none⟩) HBWc.out).trans HZ0c.out; have z1 := (hbu.cell (p := ⟨b, off + k * 4 + 1, none⟩) HBWc.out).trans HZ1c.out
                                      refine Mono.if_want rfl ?_
                                      exact Mono.ok_move (.tmp 22) rfl (hsu 22 (by decide))
                                    · intro a u hbu hsu hdu
                                      have c0 := (hbu.cell (p := ⟨b, off + i * 4, none⟩) HBWc.out).trans HX0c.out; have c1 := (hbu.cell (p := ⟨b, off + i * 4 + 1, none⟩) HBWc.out).trans HX1c.out; have z0 := (hbu.cell (p := ⟨b, off + k * 4, none⟩) HBWc.out).trans HZ0c.out; have z1 := (hbu.cell (p := ⟨b, off + k * 4 + 1, none⟩) HBWc.out).trans HZ1c.out
                                      refine Mono.if_want rfl ?_
                                      have z222 : a.eval (.tmp 222) = .slice (some ⟨b, off, none⟩) n c := Mono.dep_at hdu (i := 6) (d := 222) rfl rfl rfl
                                      simp [Act.eval] at z222
                                      have z223 : a.eval (.tmp 223) = .int .i64 (i : Int) := Mono.dep_at hdu (i := 7) (d := 223) rfl rfl rfl
                                      simp [Act.eval] at z223
                                      exact Mono.ok_val (.pointer (some ⟨b, off + i * 4, none⟩)) (by simp [execOp, z222, z223, go_sem, c0, c1, z0, z1, hnz, hni, ht1, ht2]) rfl
                                    · intro a u hbu hsu hdu
                                      have c0 := (hbu.cell (p := ⟨b, off + i * 4, none⟩) HBWc.out).trans HX0c.out; have c1 := (hbu.cell (p := ⟨b, off + i * 4 + 1, none⟩) HBWc.out).trans HX1c.out; have z0 := (hbu.cell (p := ⟨b, off + k * 4, none⟩) HBWc.out).trans HZ0c.out; have z1 := (hbu.cell (p := ⟨b, off + k * 4 + 1, none⟩) HBWc.out).trans HZ1c.out
                                      refine Mono.if_want rfl ?_
                                      have z224 : a.eval (.tmp 224) = .pointer (some ⟨b, off + i * 4, none⟩) := Mono.dep_at hdu (i := 8) (d := 224) rfl rfl rfl
                                      simp [Act.eval] at z224
                                      exact Mono.ok_val (.pointer (some ⟨b, off + i * 4, none⟩)) (by simp [execOp, z224, go_sem, c0, c1, z0, z1, hnz, hni, ht1, ht2]) rfl
                                    · intro a u hbu hsu hdu
                                      have c0 := (hbu.cell (p := ⟨b, off + i * 4, none⟩) HBWc.out).trans HX0c.out; have c1 := (hbu.cell (p := ⟨b, off + i * 4 + 1, none⟩) HBWc.out).trans HX1c.out; have z0 := (hbu.cell (p := ⟨b, off + k * 4, none⟩) HBWc.out).trans HZ0c.out; have z1 := (hbu.cell (p := ⟨b, off + k * 4 + 1, none⟩) HBWc.out).trans HZ1c.out
                                      refine Mono.if_want rfl ?_
                                      have z225 : a.eval (.tmp 225) = .pointer (some ⟨b, off + i * 4, none⟩) := Mono.dep_at hdu (i := 9) (d := 225) rfl rfl rfl
                                      simp [Act.eval] at z225
                                      exact Mono.ok_val (.pointer (some ⟨b, off + i * 4, none⟩)) (by simp [execOp, z225, go_sem, c0, c1, z0, z1, hnz, hni, ht1, ht2]) rfl
                                    · intro a u hbu hsu hdu
                                      have c0 := (hbu.cell (p := ⟨b, off + i * 4, none⟩) HBWc.out).trans HX0c.out; have c1 := (hbu.cell (p := ⟨b, off + i * 4 + 1, none⟩) HBWc.out).trans HX1c.out; have z0 := (hbu.cell (p := ⟨b, off + k * 4, none⟩) HBWc.out).trans HZ0c.out; have z1 := (hbu.cell (p := ⟨b, off + k * 4 + 1, none⟩) HBWc.out).trans HZ1c.out
                                      refine Mono.if_want rfl ?_
                                      have z226 : a.eval (.tmp 226) = .pointer (some ⟨b, off + i * 4, none⟩) := Mono.dep_at hdu (i := 10) (d := 226) rfl rfl rfl
                                      simp [Act.eval] at z226
                                      exact Mono.ok_val (.int .u16 zs) (by simp [execOp, z226, go_sem, c0, c1, z0, z1, hnz, hni, ht1, ht2]) rfl
                                    · intro a u hbu hsu hdu
                                      have c0 := (hbu.cell (p := ⟨b, off + i * 4, none⟩) HBWc.out).trans HX0c.out; have c1 := (hbu.cell (p := ⟨b, off + i * 4 + 1, none⟩) HBWc.out).trans HX1c.out; have z0 := (hbu.cell (p := ⟨b, off + k * 4, none⟩) HBWc.out).trans HZ0c.out; have z1 := (hbu.cell (p := ⟨b, off + k * 4 + 1, none⟩) HBWc.out).trans HZ1c.out
                                      refine Mono.if_want rfl ?_
                                      have z221 : a.eval (.tmp 221) = .int .u16 zs := Mono.dep_at hdu (i := 5) (d := 221) rfl rfl rfl
                                      simp [Act.eval] at z221
                                      have z227 : a.eval (.tmp 227) = .int .u16 zs := Mono.dep_at hdu (i := 11) (d := 227) rfl rfl rfl
                                      simp [Act.eval] at z227
                                      exact Mono.ok_val (.bool true) (by simp [execOp, z221, z227, go_sem, c0, c1, z0, z1, hnz, hni, ht1, ht2]) rfl
                                    · intro a u hbu hsu hdu
                                      have c0 := (hbu.cell (p := ⟨b, off + i * 4, none⟩) HBWc.out).trans HX0c.out; have c1 := (hbu.cell (p := ⟨b, off + i * 4 + 1, none⟩) HBWc.out).trans HX1c.out; have z0 := (hbu.cell (p := ⟨b, off + k * 4, none⟩) HBWc.out).trans HZ0c.out; have z1 := (hbu.cell (p := ⟨b, off + k * 4 + 1, none⟩) HBWc.out).trans HZ1c.out
                                      refine Mono.if_want rfl ?_
                                      exact Mono.ok_move (.tmp 228) rfl (Mono.dep_at hdu (i := 12) (d := 228) rfl rfl rfl)
                                    · intro a u hbu hsu hdu
                                      have c0 := (hbu.cell (p := ⟨b, off + i * 4, none⟩) HBWc.out).trans HX0c.out; have c1 := (hbu.cell (p := ⟨b, off + i * 4 + 1, none⟩) HBWc.out).trans HX1c.out; have z0 := (hbu.cell (p := ⟨b, off + k * 4, none⟩) HBWc.out).trans HZ0c.out; have z1 := (hbu.cell (p := ⟨b, off + k * 4 + 1, none⟩) HBWc.out).trans HZ1c.out
                                      refine Mono.if_want (Mono.want_at (c := true) rfl rfl (Mono.dep_at hdu (i := 13) (d := 229) rfl rfl rfl) rfl) ?_
                                      exact Mono.ok_move (.tmp 0) rfl (hsu 0 (by decide))
                                    · intro a u hbu hsu hdu
                                      have c0 := (hbu.cell (p := ⟨b, off + i * 4, none⟩) HBWc.out).trans HX0c.out; have c1 := (hbu.cell (p := ⟨b, off + i * 4 + 1, none⟩) HBWc.out).trans HX1c.out; have z0 := (hbu.cell (p := ⟨b, off + k * 4, none⟩) HBWc.out).trans HZ0c.out; have z1 := (hbu.cell (p := ⟨b, off + k * 4 + 1, none⟩) HBWc.out).trans HZ1c.out
                                      refine Mono.if_want (Mono.want_at (c := true) rfl rfl (Mono.dep_at hdu (i := 13) (d := 229) rfl rfl rfl) rfl) ?_
                                      exact Mono.ok_move (.tmp 25) rfl (hsu 25 (by decide))
                                    · intro a u hbu hsu hdu
                                      have c0 := (hbu.cell (p := ⟨b, off + i * 4, none⟩) HBWc.out).trans HX0c.out; have c1 := (hbu.cell (p := ⟨b, off + i * 4 + 1, none⟩) HBWc.out).trans HX1c.out; have z0 := (hbu.cell (p := ⟨b, off + k * 4, none⟩) HBWc.out).trans HZ0c.out; have z1 := (hbu.cell (p := ⟨b, off + k * 4 + 1, none⟩) HBWc.out).trans HZ1c.out
                                      refine Mono.if_want (Mono.want_at (c := true) rfl rfl (Mono.dep_at hdu (i := 13) (d := 229) rfl rfl rfl) rfl) ?_
                                      have z230 : a.eval (.tmp 230) = .slice (some ⟨b, off, none⟩) n c := Mono.dep_at hdu (i := 14) (d := 230) rfl rfl rfl
                                      simp [Act.eval] at z230
                                      have z231 : a.eval (.tmp 231) = .int .i64 (k : Int) := Mono.dep_at hdu (i := 15) (d := 231) rfl rfl rfl
                                      simp [Act.eval] at z231
                                      exact Mono.ok_val (.pointer (some ⟨b, off + k * 4, none⟩)) (by simp [execOp, z230, z231, go_sem, c0, c1, z0, z1, hnz, hni, ht1, ht2]) rfl
                                    · intro a u hbu hsu hdu
                                      have c0 := (hbu.cell (p := ⟨b, off + i * 4, none⟩) HBWc.out).trans HX0c.out; have c1 := (hbu.cell (p := ⟨b, off + i * 4 + 1, none⟩) HBWc.out).trans HX1c.out; have z0 := (hbu.cell (p := ⟨b, off + k * 4, none⟩) HBWc.out).trans HZ0c.out; have z1 := (hbu.cell (p := ⟨b, off + k * 4 + 1, none⟩) HBWc.out).trans HZ1c.out
                                      refine Mono.if_want (Mono.want_at (c := true) rfl rfl (Mono.dep_at hdu (i := 13) (d := 229) rfl rfl rfl) rfl) ?_
                                      have z232 : a.eval (.tmp 232) = .pointer (some ⟨b, off + k * 4, none⟩) := Mono.dep_at hdu (i := 16) (d := 232) rfl rfl rfl
                                      simp [Act.eval] at z232
                                      exact Mono.ok_val (.pointer (some ⟨b, off + k * 4, none⟩)) (by simp [execOp, z232, go_sem, c0, c1, z0, z1, hnz, hni, ht1, ht2]) rfl
                                    · intro a u hbu hsu hdu
                                      have c0 := (hbu.cell (p := ⟨b, off + i * 4, none⟩) HBWc.out).trans HX0c.out; have c1 := (hbu.cell (p := ⟨b, off + i * 4 + 1, none⟩) HBWc.out).trans HX1c.out; have z0 := (hbu.cell (p := ⟨b, off + k * 4, none⟩) HBWc.out).trans HZ0c.out; have z1 := (hbu.cell (p := ⟨b, off + k * 4 + 1, none⟩) HBWc.out).trans HZ1c.out
                                      refine Mono.if_want (Mono.want_at (c := true) rfl rfl (Mono.dep_at hdu (i := 13) (d := 229) rfl rfl rfl) rfl) ?_
                                      have z233 : a.eval (.tmp 233) = .pointer (some ⟨b, off + k * 4, none⟩) := Mono.dep_at hdu (i := 17) (d := 233) rfl rfl rfl
                                      simp [Act.eval] at z233
                                      exact Mono.ok_val (.pointer (some ⟨b, off + k * 4 + 1, none⟩)) (by simp [execOp, z233, go_sem, c0, c1, z0, z1, hnz, hni, ht1, ht2]) rfl
                                    · intro a u hbu hsu hdu
                                      have c0 := (hbu.cell (p := ⟨b, off + i * 4, none⟩) HBWc.out).trans HX0c.out; have c1 := (hbu.cell (p := ⟨b, off + i * 4 + 1, none⟩) HBWc.out).trans HX1c.out; have z0 := (hbu.cell (p := ⟨b, off + k * 4, none⟩) HBWc.out).trans HZ0c.out; have z1 := (hbu.cell (p := ⟨b, off + k * 4 + 1, none⟩) HBWc.out).trans HZ1c.out
                                      refine Mono.if_want (Mono.want_at (c := true) rfl rfl (Mono.dep_at hdu (i := 13) (d := 229) rfl rfl rfl) rfl) ?_
                                      have z234 : a.eval (.tmp 234) = .pointer (some ⟨b, off + k * 4 + 1, none⟩) := Mono.dep_at hdu (i := 18) (d := 234) rfl rfl rfl
                                      simp [Act.eval] at z234
                                      exact Mono.ok_val (.slice pz Lz cz) (by simp [execOp, z234, go_sem, c0, c1, z0, z1, hnz, hni, ht1, ht2]) rfl
                                    · intro a u hbu hsu hdu
                                      have c0 := (hbu.cell (p := ⟨b, off + i * 4, none⟩) HBWc.out).trans HX0c.out; have c1 := (hbu.cell (p := ⟨b, off + i * 4 + 1, none⟩) HBWc.out).trans HX1c.out; have z0 := (hbu.cell (p := ⟨b, off + k * 4, none⟩) HBWc.out).trans HZ0c.out; have z1 := (hbu.cell (p := ⟨b, off + k * 4 + 1, none⟩) HBWc.out).trans HZ1c.out
                                      refine Mono.if_want (Mono.want_at (c := true) rfl rfl (Mono.dep_at hdu (i := 13) (d := 229) rfl rfl rfl) rfl) ?_
                                      have z235 : a.eval (.tmp 235) = .slice pz Lz cz := Mono.dep_at hdu (i := 19) (d := 235) rfl rfl rfl
                                      exact Mono.ok_conv 30 9 (.tmp 235) rfl _ (by rw [z235, ← HSZ.out]; exact Chunk.string30 (HRZc.out.below hbu)) rfl
                                    · intro a u hbu hsu hdu
                                      have c0 := (hbu.cell (p := ⟨b, off + i * 4, none⟩) HBWc.out).trans HX0c.out; have c1 := (hbu.cell (p := ⟨b, off + i * 4 + 1, none⟩) HBWc.out).trans HX1c.out; have z0 := (hbu.cell (p := ⟨b, off + k * 4, none⟩) HBWc.out).trans HZ0c.out; have z1 := (hbu.cell (p := ⟨b, off + k * 4 + 1, none⟩) HBWc.out).trans HZ1c.out
                                      refine Mono.if_want (Mono.want_at (c := true) rfl rfl (Mono.dep_at hdu (i := 13) (d := 229) rfl rfl rfl) rfl) ?_
                                      exact Mono.ok_move (.tmp 0) rfl (hsu 0 (by decide))
                                    · intro a u hbu hsu hdu
                                      have c0 := (hbu.cell (p := ⟨b, off + i * 4, none⟩) HBWc.out).trans HX0c.out; have c1 := (hbu.cell (p := ⟨b, off + i * 4 + 1, none⟩) HBWc.out).trans HX1c.out; have z0 := (hbu.cell (p := ⟨b, off + k * 4, none⟩) HBWc.out).trans HZ0c.out; have z1 := (hbu.cell (p := ⟨b, off + k * 4 + 1, none⟩) HBWc.out).trans HZ1c.out
                                      refine Mono.if_want (Mono.want_at (c := true) rfl rfl (Mono.dep_at hdu (i := 13) (d := 229) rfl rfl rfl) rfl) ?_
                                      exact Mono.ok_move (.tmp 22) rfl (hsu 22 (by decide))
                                    · intro a u hbu hsu hdu
                                      have c0 := (hbu.cell (p := ⟨b, off + i * 4, none⟩) HBWc.out).trans HX0c.out; have c1 := (hbu.cell (p := ⟨b, off + i * 4 + 1, none⟩) HBWc.out).trans HX1c.out; have z0 := (hbu.cell (p := ⟨b, off + k * 4, none⟩) HBWc.out).trans HZ0c.out; have z1 := (hbu.cell (p := ⟨b, off + k * 4 + 1, none⟩) HBWc.out).trans HZ1c.out
                                      refine Mono.if_want (Mono.want_at (c := true) rfl rfl (Mono.dep_at hdu (i := 13) (d := 229) rfl rfl rfl) rfl) ?_
                                      have z237 : a.eval (.tmp 237) = .slice (some ⟨b, off, none⟩) n c := Mono.dep_at hdu (i := 21) (d := 237) rfl rfl rfl
                                      simp [Act.eval] at z237
                                      have z238 : a.eval (.tmp 238) = .int .i64 (i : Int) := Mono.dep_at hdu (i := 22) (d := 238) rfl rfl rfl
                                      simp [Act.eval] at z238
                                      exact Mono.ok_val (.pointer (some ⟨b, off + i * 4, none⟩)) (by simp [execOp, z237, z238, go_sem, c0, c1, z0, z1, hnz, hni, ht1, ht2]) rfl
                                    · intro a u hbu hsu hdu
                                      have c0 := (hbu.cell (p := ⟨b, off + i * 4, none⟩) HBWc.out).trans HX0c.out; have c1 := (hbu.cell (p := ⟨b, off + i * 4 + 1, none⟩) HBWc.out).trans HX1c.out; have z0 := (hbu.cell (p := ⟨b, off + k * 4, none⟩) HBWc.out).trans HZ0c.out; have z1 := (hbu.cell (p := ⟨b, off + k * 4 + 1, none⟩) HBWc.out).trans HZ1c.out
                                      refine Mono.if_want (Mono.want_at (c := true) rfl rfl (Mono.dep_at hdu (i := 13) (d := 229) rfl rfl rfl) rfl) ?_
                                      have z239 : a.eval (.tmp 239) = .pointer (some ⟨b, off + i * 4, none⟩) := Mono.dep_at hdu (i := 23) (d := 239) rfl rfl rfl
                                      simp [Act.eval] at z239
                                      exact Mono.ok_val (.pointer (some ⟨b, off + i * 4, none⟩)) (by simp [execOp, z239, go_sem, c0, c1, z0, z1, hnz, hni, ht1, ht2]) rfl
                                    · intro a u hbu hsu hdu
                                      have c0 := (hbu.cell (p := ⟨b, off + i * 4, none⟩) HBWc.out).trans HX0c.out; have c1 := (hbu.cell (p := ⟨b, off + i * 4 + 1, none⟩) HBWc.out).trans HX1c.out; have z0 := (hbu.cell (p := ⟨b, off + k * 4, none⟩) HBWc.out).trans HZ0c.out; have z1 := (hbu.cell (p := ⟨b, off + k * 4 + 1, none⟩) HBWc.out).trans HZ1c.out
                                      refine Mono.if_want (Mono.want_at (c := true) rfl rfl (Mono.dep_at hdu (i := 13) (d := 229) rfl rfl rfl) rfl) ?_
                                      have z240 : a.eval (.tmp 240) = .pointer (some ⟨b, off + i * 4, none⟩) := Mono.dep_at hdu (i := 24) (d := 240) rfl rfl rfl
                                      simp [Act.eval] at z240
                                      exact Mono.ok_val (.pointer (some ⟨b, off + i * 4 + 1, none⟩)) (by simp [execOp, z240, go_sem, c0, c1, z0, z1, hnz, hni, ht1, ht2]) rfl
                                    · intro a u hbu hsu hdu
                                      have c0 := (hbu.cell (p := ⟨b, off + i * 4, none⟩) HBWc.out).trans HX0c.out; have c1 := (hbu.cell (p := ⟨b, off + i * 4 + 1, none⟩) HBWc.out).trans HX1c.out; have z0 := (hbu.cell (p := ⟨b, off + k * 4, none⟩) HBWc.out).trans HZ0c.out; have z1 := (hbu.cell (p := ⟨b, off + k * 4 + 1, none⟩) HBWc.out).trans HZ1c.out
                                      refine Mono.if_want (Mono.want_at (c := true) rfl rfl (Mono.dep_at hdu (i := 13) (d := 229) rfl rfl rfl) rfl) ?_
                                      have z241 : a.eval (.tmp 241) = .pointer (some ⟨b, off + i * 4 + 1, none⟩) := Mono.dep_at hdu (i := 25) (d := 241) rfl rfl rfl
                                      simp [Act.eval] at z241
                                      exact Mono.ok_val (.slice pd L cd) (by simp [execOp, z241, go_sem, c0, c1, z0, z1, hnz, hni, ht1, ht2]) rfl
                                    · intro a u hbu hsu hdu
                                      have c0 := (hbu.cell (p := ⟨b, off + i * 4, none⟩) HBWc.out).trans HX0c.out; have c1 := (hbu.cell (p := ⟨b, off + i * 4 + 1, none⟩) HBWc.out).trans HX1c.out; have z0 := (hbu.cell (p := ⟨b, off + k * 4, none⟩) HBWc.out).trans HZ0c.out; have z1 := (hbu.cell (p := ⟨b, off + k * 4 + 1, none⟩) HBWc.out).trans HZ1c.out
                                      refine Mono.if_want (Mono.want_at (c := true) rfl rfl (Mono.dep_at hdu (i := 13) (d := 229) rfl rfl rfl) rfl) ?_
                                      have z242 : a.eval (.tmp 242) = .slice pd L cd := Mono.dep_at hdu (i := 26) (d := 242) rfl rfl rfl
                                      exact Mono.ok_conv 30 9 (.tmp 242) rfl _ (by rw [z242, ← HSX.out]; exact Chunk.string30 (HRXc.out.below hbu)) rfl
                                    · intro a u hbu hsu hdu
                                      have c0 := (hbu.cell (p := ⟨b, off + i * 4, none⟩) HBWc.out).trans HX0c.out; have c1 := (hbu.cell (p := ⟨b, off + i * 4 + 1, none⟩) HBWc.out).trans HX1c.out; have z0 := (hbu.cell (p := ⟨b, off + k * 4, none⟩) HBWc.out).trans HZ0c.out; have z1 := (hbu.cell (p := ⟨b, off + k * 4 + 1, none⟩) HBWc.out).trans HZ1c.out
                                      refine Mono.if_want (Mono.want_at (c := true) rfl rfl (Mono.dep_at hdu (i := 13) (d := 229) rfl rfl rfl) rfl) ?_
                                      have z236 : a.eval (.tmp 236) = .string sz := Mono.dep_at hdu (i := 20) (d := 236) rfl rfl rfl
                                      simp [Act.eval] at z236
                                      have z243 : a.eval (.tmp 243) = .string sx := Mono.dep_at hdu (i := 27) (d := 243) rfl rfl rfl
                                      simp [Act.eval] at z243
                                      exact Mono.ok_val (.bool false) (by simp [execOp, z236, z243, go_sem, c0, c1, z0, z1, hnz, hni, ht1, ht2]) rfl
                                    · intro a u hbu hsu hdu
                                      have c0 := (hbu.cell (p := ⟨b, off + i * 4, none⟩) HBWc.out).trans HX0c.out; have c1 := (hbu.cell (p := ⟨b, off + i * 4 + 1, none⟩) HBWc.out).trans HX1c.out; have z0 := (hbu.cell (p := ⟨b, off + k * 4, none⟩) HBWc.out).trans HZ0c.out; have z1 := (hbu.cell (p := ⟨b, off + k * 4 + 1, none⟩) HBWc.out).trans HZ1c.out
                                      refine Mono.if_want rfl ?_
                                      have z229 : a.eval (.tmp 229) = .bool true := Mono.dep_at hdu (i := 13) (d := 229) rfl rfl rfl
                                      simp [Act.eval] at z229
                                      have z244 : a.eval (.tmp 244) = .bool false := Mono.dep_at hdu (i := 28) (d := 244) rfl rfl rfl
                                      simp [Act.eval] at z244
                                      exact Mono.ok_val (.bool false) (by simp [execOp, z229, z244, go_sem, c0, c1, z0, z1, hnz, hni, ht1, ht2]) rfl
                                  intro u hu
                                  simp only [Mono.Fin]
                                  rintro _ rfl _ rfl _ rfl _ rfl _ rfl _ rfl _ rfl _ rfl _ rfl _ rfl _ rfl _ rfl _ rfl _ rfl _ rfl _ rfl _ rfl _ rfl _ rfl _ rfl _ rfl _ rfl _ rfl _ rfl _ rfl _ rfl _ rfl _ rfl _ rfl _ rfl
                                  have HE := Lib.hid (show bZ = false by rw [← HBZ.out]; show (z.s == x.s && strOfNums z.data == strOfNums x.data) = false; rw [HZS.out, HXS.out, HSZ.out, HSX.out, ht1]; simp)
                                  have HU := Lib.hid hu
                                  clear hu ht1 ht2 het
                                  simp [Act.put]
                                  go_wp2_with fail
                                  go_meet
                                  exact ⟨by rw [HE.out], HU.out⟩
                              · have hy1 : (zs == xs) = false := by simpa using hey
                                have hy2 : (zs != xs) = true := by simpa using hey
                                refine Mono.wp_region_mono [some 216, some 217, some 218, some 219, some 220, some 221, some 222, some 223, some 224, some 225, some 226, some 227, some 228, some 229, some 230, some 231, some 232, some 233, some 234, some 235, some 236, some 237, some 238, some 239, some 240, some 241, some 242, some 243, some 244, some 245] [Mono.isV (.slice (some ⟨b, off, none⟩) n c), Mono.isV (.int .i64 (k : Int)), Mono.isV (.pointer (some ⟨b, off + k * 4, none⟩)), Mono.isV (.pointer (some ⟨b, off + k * 4, none⟩)), Mono.isV (.pointer (some ⟨b, off + k * 4, none⟩)), Mono.isV (.int .u16 zs), Mono.isV (.slice (some ⟨b, off, none⟩) n c), Mono.isV (.int .i64 (i : Int)), Mono.isV (.pointer (some ⟨b, off + i * 4, none⟩)), Mono.isV (.pointer (some ⟨b, off + i * 4, none⟩)), Mono.isV (.pointer (some ⟨b, off + i * 4, none⟩)), Mono.isV (.int .u16 xs), Mono.isV (.bool false), Mono.isV (.bool false), Mono.isV (undef), Mono.isV (undef), Mono.isV (undef), Mono.isV (undef), Mono.isV (undef), Mono.isV (undef), Mono.isV (undef), Mono.isV (undef), Mono.isV (undef), Mono.isV (undef), Mono.isV (undef), Mono.isV (undef), Mono.isV (undef), Mono.isV (undef), Mono.isV (undef), Mono.isV (.bool false)] (by kernel_rfl) (by kernel_rfl) ?_ ?_
                                · simp only [Mono.OpGoals, and_true]
                                  refine ⟨?_, ?_, ?_, ?_, ?_, ?_, ?_, ?_, ?_, ?_, ?_, ?_, ?_, ?_, ?_, ?_, ?_, ?_, ?_, ?_, ?_, ?_, ?_, ?_, ?_, ?_, ?_, ?_, ?_, ?_⟩
                                  · intro a u hbu hsu hdu
                                    have c0 := (hbu.cell (p := ⟨b, off + i * 4, none⟩) HBWc.out).trans HX0c.out; have c1 := (hbu.cell (p := ⟨b, off + i * 4 + 1, none⟩) HBWc.out).trans HX1c.out; have z0 := (hbu.cell (p := ⟨b, off + k * 4, none⟩) HBWc.out).trans HZ0c.out; have z1 := (hbu.cell (p := ⟨b, off + k * 4 + 1, none⟩) HBWc.out).trans HZ1c.out
                                    refine Mono.if_want rfl ?_
                                    exact Mono.ok_move (.tmp 0) rfl (hsu 0 (by decide))
                                  · intro a u hbu hsu hdu
                                    have c0 := (hbu.cell (p := ⟨b, off + i * 4, none⟩) HBWc.out).trans HX0c.out; have c1 := (hbu.cell (p := ⟨b, off + i * 4 + 1, none⟩) HBWc.out).trans HX1c.out; have z0 := (hbu.cell (p := ⟨b, off + k * 4, none⟩) HBWc.out).trans HZ0c.out; have z1 := (hbu.cell (p := ⟨b, off + k * 4 + 1, none⟩) HBWc.out).trans HZ1c.out
                                    refine Mono.if_want rfl ?_
                                    exact Mono.ok_move (.tmp 25) rfl (hsu 25 (by decide))
                                  · intro a u hbu hsu hdu
                                    have c0 := (hbu.cell (p := ⟨b, off + i * 4, none⟩) HBWc.out).trans HX0c.out; have c1 := (hbu.cell (p := ⟨b, off + i * 4 + 1, none⟩) HBWc.out).trans HX1c.out; have z0 := (hbu.cell (p := ⟨b, off + k * 4, none⟩) HBWc.out).trans HZ0c.out; have z1 := (hbu.cell (p := ⟨b, off + k * 4 + 1, none⟩) HBWc.out).trans HZ1c.out
                                    refine Mono.if_want rfl ?_
                                    have z216 : a.eval (.tmp 216) = .slice (some ⟨b, off, none⟩) n c := Mono.dep_at hdu (i := 0) (d := 216) rfl rfl rfl
                                    simp [Act.eval] at z216
                                    have z217 : a.eval (.tmp 217) = .int .i64 (k : Int) := Mono.dep_at hdu (i := 1) (d := 217) rfl rfl rfl
                                    simp [Act.eval] at z217
                                    exact Mono.ok_val (.pointer (some ⟨b, off + k * 4, none⟩)) (by simp [execOp, z216, z217, go_sem, c0, c1, z0, z1, hnz, hni, hy1, hy2]) rfl
                                  · intro a u hbu hsu hdu
                                    have c0 := (hbu.cell (p := ⟨b, off + i * 4, none⟩) HBWc.out).trans HX0c.out; have c1 := (hbu.cell (p := ⟨b, off + i * 4 + 1, none⟩) HBWc.out).trans HX1c.out; have z0 := (hbu.cell (p := ⟨b, off + k * 4, none⟩) HBWc.out).trans HZ0c.out; have z1 := (hbu.cell (p := ⟨b, off + k * 4 + 1, none⟩) HBWc.out).trans HZ1c.out
                                    refine Mono.if_want rfl ?_
                                    have z218 : a.eval (.tmp 218) = .pointer (some ⟨b, off + k * 4, none⟩) := Mono.dep_at hdu (i := 2) (d := 218) rfl rfl rfl
                                    simp [Act.eval] at z218
                                    exact Mono.ok_val (.pointer (some ⟨b, off + k * 4, none⟩)) (by simp [execOp, z218, go_sem, c0, c1, z0, z1, hnz, hni, hy1, hy2]) rfl
                                  · intro a u hbu hsu hdu
                                    have c0 := (hbu.cell (p := ⟨b, off + i * 4, none⟩) HBWc.out).trans HX0c.out; have c1 := (hbu.cell (p := ⟨b, off + i * 4 + 1, none⟩) HBWc.out).trans HX1c.out; have z0 := (hbu.cell (p := ⟨b, off + k * 4, none⟩) HBWc.out).trans HZ0c.out; have z1 := (hbu.cell (p := ⟨b, off + k * 4 + 1, none⟩) HBWc.out).trans HZ1c.out
                                    refine Mono.if_want rfl ?_
                                    have z219 : a.eval (.tmp 219) = .pointer (some ⟨b, off + k * 4, none⟩) := Mono.dep_at hdu (i := 3) (d := 219) rfl rfl rfl
                                    simp [Act.eval] at z219
                                    exact Mono.ok_val (.pointer (some ⟨b, off + k * 4, none⟩)) (by simp [execOp, z219, go_sem, c0, c1, z0, z1, hnz, hni, hy1, hy2]) rfl
                                  · intro a u hbu hsu hdu
                                    have c0 := (hbu.cell (p := ⟨b, off + i * 4, none⟩) HBWc.out).trans HX0c.out; have c1 := (hbu.cell (p := ⟨b, off + i * 4 + 1, none⟩) HBWc.out).trans HX1c.out; have z0 := (hbu.cell (p := ⟨b, off + k * 4, none⟩) HBWc.out).trans HZ0c.out; have z1 := (hbu.cell (p := ⟨b, off + k * 4 + 1, none⟩) HBWc.out).trans HZ1c.out
                                    refine Mono.if_want rfl ?_
                                    have z220 : a.eval (.tmp 220) = .pointer (some ⟨b, off + k * 4, none⟩) := Mono.dep_at hdu (i := 4) (d := 220) rfl rfl rfl
                                    simp [Act.eval] at z220
                                    exact Mono.ok_val (.int .u16 zs) (by simp [execOp, z220, go_sem, c0, c1, z0, z1, hnz, hni, hy1, hy2]) rfl
                                  · intro a u hbu hsu hdu
                                    have c0 := (hbu.cell (p := ⟨b, off + i * 4, none⟩) HBWc.out).trans HX0c.out; have c1 := (hbu.cell (p := ⟨b, off + i * 4 + 1, none⟩) HBWc.out).trans HX1c.out; have z0 := (hbu.cell (p := ⟨b, off + k * 4, none⟩) HBWc.out).trans HZ0c.out; have z1 := (hbu.cell (p := ⟨b, off + k * 4 + 1, none⟩) HBWc.out).trans HZ1c.out
                                    refine Mono.if_want rfl ?_
                                    exact Mono.ok_move (.tmp 0) rfl (hsu 0 (by decide))
                                  · intro a u hbu hsu hdu
                                    have c0 := (hbu.cell (p := ⟨b, off + i * 4, none⟩) HBWc.out).trans HX0c.out; have c1 := (hbu.cell (p := ⟨b, off + i * 4 + 1, none⟩) HBWc.out).trans HX1c.out; have z0 := (hbu.cell (p := ⟨b, off + k * 4, none⟩) HBWc.out).trans HZ0c.out; have z1 := (hbu.cell (p := ⟨b, off + k * 4 + 1, none⟩) HBWc.out).trans HZ1c.out
                                    refine Mono.if_want rfl ?_
                                    exact Mono.ok_move (.tmp 22) rfl (hsu 22 (by decide))
                                  · intro a u hbu hsu hdu
                                    have c0 := (hbu.cell (p := ⟨b, off + i * 4, none⟩) HBWc.out).trans HX0c.out; have c1 := (hbu.cell (p := ⟨b, off + i * 4 + 1, none⟩) HBWc.out).trans HX1c.out; have z0 := (hbu.cell (p := ⟨b, off + k * 4, none⟩) HBWc.out).trans HZ0c.out; have z1 := (hbu.cell (p := ⟨b, off + k * 4 + 1, none⟩) HBWc.out).trans HZ1c.out
                                    refine Mono.if_want rfl ?_
                                    have z222 : a.eval (.tmp 222) = .slice (some ⟨b, off, none⟩) n c := Mono.dep_at hdu (i := 6) (d := 222) rfl rfl rfl
                                    simp [Act.eval] at z222
                                    have z223 : a.eval (.tmp 223) = .int .i64 (i : Int) := Mono.dep_at hdu (i := 7) (d := 223) rfl rfl rfl
                                    simp [Act.eval] at z223
                                    exact Mono.ok_val (.pointer (some ⟨b, off + i * 4, none⟩)) (by simp [execOp, z222, z223, go_sem, c0, c1, z0, z1, hnz, hni, hy1, hy2]) rfl
                                  · intro a u hbu hsu hdu
                                    have c0 := (hbu.cell (p := ⟨b, off + i * 4, none⟩) HBWc.out).trans HX0c.out; have c1 := (hbu.cell (p := ⟨b, off + i * 4 + 1, none⟩) HBWc.out).trans HX1c.out; have z0 := (hbu.cell (p := ⟨b, off + k * 4, none⟩) HBWc.out).trans HZ0c.out; have z1 := (hbu.cell (p := ⟨b, off + k * 4 + 1, none⟩) HBWc.out).trans HZ1c.out
                                    refine Mono.if_want rfl ?_
                                    have z224 : a.eval (.tmp 224) = .pointer (some ⟨b, off + i * 4, none⟩) := Mono.dep_at hdu (i := 8) (d := 224) rfl rfl rfl
                                    simp [Act.eval] at z224
                                    exact Mono.ok_val (.pointer (some ⟨b, off + i * 4, none⟩)) (by simp [execOp, z224, go_sem, c0, c1, z0, z1, hnz, hni, hy1, hy2]) rfl
                                  · intro a u hbu hsu hdu
                                    have c0 := (hbu.cell (p := ⟨b, off + i * 4, none⟩) HBWc.out).trans HX0c.out; have c1 := (hbu.cell (p := ⟨b, off + i * 4 + 1, none⟩) HBWc.out).trans HX1c.out; have z0 := (hbu.cell (p := ⟨b, off + k * 4, none⟩) HBWc.out).trans HZ0c.out; have z1 := (hbu.cell (p := ⟨b, off + k * 4 + 1, none⟩) HBWc.out).trans HZ1c.out
                                    refine Mono.if_want rfl ?_
                                    have z225 : a.eval (.tmp 225) = .pointer (some ⟨b, off + i * 4, none⟩) := Mono.dep_at hdu (i := 9) (d := 225) rfl rfl rfl
                                    simp [Act.eval] at z225
                                    exact Mono.ok_val (.pointer (some ⟨b, off + i * 4, none⟩)) (by simp [execOp, z225, go_sem, c0, c1, z0, z1, hnz, hni, hy1, hy2]) rfl
                                  · intro a u hbu hsu hdu
                                    have c0 := (hbu.cell (p := ⟨b, off + i * 4, none⟩) HBWc.out).trans HX0c.out; have c1 := (hbu.cell (p := ⟨b, off + i * 4 + 1, none⟩) HBWc.out).trans HX1c.out; have z0 := (hbu.cell (p := ⟨b, off + k * 4, none⟩) HBWc.out).trans HZ0c.out; have z1 := (hbu.cell (p := ⟨b, off + k * 4 + 1, none⟩) HBWc.out).trans HZ1c.out
                                    refine Mono.if_want rfl ?_
                                    have z226 : a.eval (.tmp 226) = .pointer (some ⟨b, off + i * 4, none⟩) := Mono.dep_at hdu (i := 10) (d := 226) rfl rfl rfl
                                    simp [Act.eval] at z226
                                    exact Mono.ok_val (.int .u16 xs) (by simp [execOp, z226, go_sem, c0, c1, z0, z1, hnz, hni, hy1, hy2]) rfl
                                  · intro a u hbu hsu hdu
                                    have c0 := (hbu.cell (p := ⟨b, off + i * 4, none⟩) HBWc.out).trans HX0c.out; have c1 := (hbu.cell (p := ⟨b, off + i * 4 + 1, none⟩) HBWc.out).trans HX1c.out; have z0 := (hbu.cell (p := ⟨b, off + k * 4, none⟩) HBWc.out).trans HZ0c.out; have z1 := (hbu.cell (p := ⟨b, off + k * 4 + 1, none⟩) HBWc.out).trans HZ1c.out
                                    refine Mono.if_want rfl ?_
                                    have z221 : a.eval (.tmp 221) = .int .u16 zs := Mono.dep_at hdu (i := 5) (d := 221) rfl rfl rfl
                                    simp [Act.eval] at z221
                                    have z227 : a.eval (.tmp 227) = .int .u16 xs := Mono.dep_at hdu (i := 11) (d := 227) rfl rfl rfl
                                    simp [Act.eval] at z227
                                    exact Mono.ok_val (.bool false) (by simp [execOp, z221, z227, go_sem, c0, c1, z0, z1, hnz, hni, hy1, hy2]) rfl
                                  · intro a u hbu hsu hdu
                                    have c0 := (hbu.cell (p := ⟨b, off + i * 4, none⟩) HBWc.out).trans HX0c.out; have c1 := (hbu.cell (p := ⟨b, off + i * 4 + 1, none⟩) HBWc.out).trans HX1c.out; have z0 := (hbu.cell (p := ⟨b, off + k * 4, none⟩) HBWc.out).trans HZ0c.out; have z1 := (hbu.cell (p := ⟨b, off + k * 4 + 1, none⟩) HBWc.out).trans HZ1c.out
                                    refine Mono.if_want rfl ?_
                                    exact Mono.ok_move (.tmp 228) rfl (Mono.dep_at hdu (i := 12) (d := 228) rfl rfl rfl)
                                  · intro a u hbu hsu hdu
                                    have c0 := (hbu.cell (p := ⟨b, off + i * 4, none⟩) HBWc.out).trans HX0c.out; have c1 := (hbu.cell (p := ⟨b, off + i * 4 + 1, none⟩) HBWc.out).trans HX1c.out; have z0 := (hbu.cell (p := ⟨b, off + k * 4, none⟩) HBWc.out).trans HZ0c.out; have z1 := (hbu.cell (p := ⟨b, off + k * 4 + 1, none⟩) HBWc.out).trans HZ1c.out
                                    refine Mono.if_no (Mono.want_no (c := false) rfl rfl (Mono.dep_at hdu (i := 13) (d := 229) rfl rfl rfl) rfl) ?_
                                    exact rfl
                                  · intro a u hbu hsu hdu
                                    have c0 := (hbu.cell (p := ⟨b, off + i * 4, none⟩) HBWc.out).trans HX0c.out; have c1 := (hbu.cell (p := ⟨b, off + i * 4 + 1, none⟩) HBWc.out).trans HX1c.out; have z0 := (hbu.cell (p := ⟨b, off + k * 4, none⟩) HBWc.out).trans HZ0c.out; have z1 := (hbu.cell (p := ⟨b, off + k * 4 + 1, none⟩) HBWc.out).trans HZ1c.out
                                    refine Mono.if_no (Mono.want_no (c := false) rfl rfl (Mono.dep_at hdu (i := 13) (d := 229) rfl rfl rfl) rfl) ?_
                                    exact rfl
                                  · intro a u hbu hsu hdu
                                    have c0 := (hbu.cell (p := ⟨b, off + i * 4, none⟩) HBWc.out).trans HX0c.out; have c1 := (hbu.cell (p := ⟨b, off + i * 4 + 1, none⟩) HBWc.out).trans HX1c.out; have z0 := (hbu.cell (p := ⟨b, off + k * 4, none⟩) HBWc.out).trans HZ0c.out; have z1 := (hbu.cell (p := ⟨b, off + k * 4 + 1, none⟩) HBWc.out).trans HZ1c.out
                                    refine Mono.if_no (Mono.want_no (c := false) rfl rfl (Mono.dep_at hdu (i := 13) (d := 229) rfl rfl rfl) rfl) ?_
                                    exact rfl
                                  · intro a u hbu hsu hdu
                                    have c0 := (hbu.cell (p := ⟨b, off + i * 4, none⟩) HBWc.out).trans HX0c.out; have c1 := (hbu.cell (p := ⟨b, off + i * 4 + 1, none⟩) HBWc.out).trans HX1c.out; have z0 := (hbu.cell (p := ⟨b, off + k * 4, none⟩) HBWc.out).trans HZ0c.out; have z1 := (hbu.cell (p := ⟨b, off + k * 4 + 1, none⟩) HBWc.out).trans HZ1c.out
                                    refine Mono.if_no (Mono.want_no (c := false) rfl rfl (Mono.dep_at hdu (i := 13) (d := 229) rfl rfl rfl) rfl) ?_
                                    exact rfl
                                  · intro a u hbu hsu hdu
                                    have c0 := (hbu.cell (p := ⟨b, off + i * 4, none⟩) HBWc.out).trans HX0c.out; have c1 := (hbu.cell (p := ⟨b, off + i * 4 + 1, none⟩) HBWc.out).trans HX1c.out; have z0 := (hbu.cell (p := ⟨b, off + k * 4, none⟩) HBWc.out).trans HZ0c.out; have z1 := (hbu.cell (p := ⟨b, off + k * 4 + 1, none⟩) HBWc.out).trans HZ1c.out
                                    refine Mono.if_no (Mono.want_no (c := false) rfl rfl (Mono.dep_at hdu (i := 13) (d := 229) rfl rfl rfl) rfl) ?_
                                    exact rfl
                                  · intro a u hbu hsu hdu
                                    have c0 := (hbu.cell (p := ⟨b, off + i * 4, none⟩) HBWc.out).trans HX0c.out; have c1 := (hbu.cell (p := ⟨b, off + i * 4 + 1, none⟩) HBWc.out).trans HX1c.out; have z0 := (hbu.cell (p := ⟨b, off + k * 4, none⟩) HBWc.out).trans HZ0c.out; have z1 := (hbu.cell (p := ⟨b, off + k * 4 + 1, none⟩) HBWc.out).trans HZ1c.out
                                    refine Mono.if_no (Mono.want_no (c := false) rfl rfl (Mono.dep_at hdu (i := 13) (d := 229) rfl rfl rfl) rfl) ?_
                                    exact rfl
                                  · intro a u hbu hsu hdu
                                    have c0 := (hbu.cell (p := ⟨b, off + i * 4, none⟩) HBWc.out).trans HX0c.out; have c1 := (hbu.cell (p := ⟨b, off + i * 4 + 1, none⟩) HBWc.out).trans HX1c.out; have z0 := (hbu.cell (p := ⟨b, off + k * 4, none⟩) HBWc.out).trans HZ0c.out; have z1 := (hbu.cell (p := ⟨b, off + k * 4 + 1, none⟩) HBWc.out).trans HZ1c.out
                                    refine Mono.if_no (Mono.want_no (c := false) rfl rfl (Mono.dep_at hdu (i := 13) (d := 229) rfl rfl rfl) rfl) ?_
                                    exact rfl
                                  · intro a u hbu hsu hdu
                                    have c0 := (hbu.cell (p := ⟨b, off + i * 4, none⟩) HBWc.out).trans HX0c.out; have c1 := (hbu.cell (p := ⟨b, off + i * 4 + 1, none⟩) HBWc.out).trans HX1c.out; have z0 := (hbu.cell (p := ⟨b, off + k * 4, none⟩) HBWc.out).trans HZ0c.out; have z1 := (hbu.cell (p := ⟨b, off + k * 4 + 1, none⟩) HBWc.out).trans HZ1c.out
                                    refine Mono.if_no (Mono.want_no (c := false) rfl rfl (Mono.dep_at hdu (i := 13) (d := 229) rfl rfl rfl) rfl) ?_
                                    exact rfl
                                  · intro a u hbu hsu hdu
                                    have c0 := (hbu.cell (p := ⟨b, off + i * 4, none⟩) HBWc.out).trans HX0c.out; have c1 := (hbu.cell (p := ⟨b, off + i * 4 + 1, none⟩) HBWc.out).trans HX1c.out; have z0 := (hbu.cell (p := ⟨b, off + k * 4, none⟩) HBWc.out).trans HZ0c.out; have z1 := (hbu.cell (p := ⟨b, off + k * 4 + 1, none⟩) HBWc.out).trans HZ1c.out
                                    refine Mono.if_no (Mono.want_no (c := false) rfl rfl (Mono.dep_at hdu (i := 13) (d := 229) rfl rfl rfl) rfl) ?_
                                    exact rfl
                                  · intro a u hbu hsu hdu
                                    have c0 := (hbu.cell (p := ⟨b, off + i * 4, none⟩) HBWc.out).trans HX0c.out; have c1 := (hbu.cell (p := ⟨b, off + i * 4 + 1, none⟩) HBWc.out).trans HX1c.out; have z0 := (hbu.cell (p := ⟨b, off + k * 4, none⟩) HBWc.out).trans HZ0c.out; have z1 := (hbu.cell (p := ⟨b, off + k * 4 + 1, none⟩) HBWc.out).trans HZ1c.out
                                    refine Mono.if_no (Mono.want_no (c := false) rfl rfl (Mono.dep_at hdu (i := 13) (d := 229) rfl rfl rfl) rfl) ?_
                                    exact rfl
                                  · intro a u hbu hsu hdu
                                    have c0 := (hbu.cell (p := ⟨b, off + i * 4, none⟩) HBWc.out).trans HX0c.out; have c1 := (hbu.cell (p := ⟨b, off + i * 4 + 1, none⟩) HBWc.out).trans HX1c.out; have z0 := (hbu.cell (p := ⟨b, off + k * 4, none⟩) HBWc.out).trans HZ0c.out; have z1 := (hbu.cell (p := ⟨b, off + k * 4 + 1, none⟩) HBWc.out).trans HZ1c.out
                                    refine Mono.if_no (Mono.want_no (c := false) rfl rfl (Mono.dep_at hdu (i := 13) (d := 229) rfl rfl rfl) rfl) ?_
                                    exact rfl
                                  · intro a u hbu hsu hdu
                                    have c0 := (hbu.cell (p := ⟨b, off + i * 4, none⟩) HBWc.out).trans HX0c.out; have c1 := (hbu.cell (p := ⟨b, off + i * 4 + 1, none⟩) HBWc.out).trans HX1c.out; have z0 := (hbu.cell (p := ⟨b, off + k * 4, none⟩) HBWc.out).trans HZ0c.out; have z1 := (hbu.cell (p := ⟨b, off + k * 4 + 1, none⟩) HBWc.out).trans HZ1c.out
                                    refine Mono.if_no (Mono.want_no (c := false) rfl rfl (Mono.dep_at hdu (i := 13) (d := 229) rfl rfl rfl) rfl) ?_
                                    exact rfl
                                  · intro a u hbu hsu hdu
                                    have c0 := (hbu.cell (p := ⟨b, off + i * 4, none⟩) HBWc.out).trans HX0c.out; have c1 := (hbu.cell (p := ⟨b, off + i * 4 + 1, none⟩) HBWc.out).trans HX1c.out; have z0 := (hbu.cell (p := ⟨b, off + k * 4, none⟩) HBWc.out).trans HZ0c.out; have z1 := (hbu.cell (p := ⟨b, off + k * 4 + 1, none⟩) HBWc.out).trans HZ1c.out
                                    refine Mono.if_no (Mono.want_no (c := false) rfl rfl (Mono.dep_at hdu (i := 13) (d := 229) rfl rfl rfl) rfl) ?_
                                    exact rfl
                                  · intro a u hbu hsu hdu
                                    have c0 := (hbu.cell (p := ⟨b, off + i * 4, none⟩) HBWc.out).trans HX0c.out; have c1 := (hbu.cell (p := ⟨b, off + i * 4 + 1, none⟩) HBWc.out).trans HX1c.out; have z0 := (hbu.cell (p := ⟨b, off + k * 4, none⟩) HBWc.out).trans HZ0c.out; have z1 := (hbu.cell (p := ⟨b, off + k * 4 + 1, none⟩) HBWc.out).trans HZ1c.out
                                    refine Mono.if_no (Mono.want_no (c := false) rfl rfl (Mono.dep_at hdu (i := 13) (d := 229) rfl rfl rfl) rfl) ?_
                                    exact rfl
                                  · intro a u hbu hsu hdu
                                    have c0 := (hbu.cell (p := ⟨b, off + i * 4, none⟩) HBWc.out).trans HX0c.out; have c1 := (hbu.cell (p := ⟨b, off + i * 4 + 1, none⟩) HBWc.out).trans HX1c.out; have z0 := (hbu.cell (p := ⟨b, off + k * 4, none⟩) HBWc.out).trans HZ0c.out; have z1 := (hbu.cell (p := ⟨b, off + k * 4 + 1, none⟩) HBWc.out).trans HZ1c.out
                                    refine Mono.if_no (Mono.want_no (c := false) rfl rfl (Mono.dep_at hdu (i := 13) (d := 229) rfl rfl rfl) rfl) ?_
                                    exact rfl
                                  · intro a u hbu hsu hdu
                                    have c0 := (hbu.cell (p := ⟨b, off + i * 4, none⟩) HBWc.out).trans HX0c.out; have c1 := (hbu.cell (p := ⟨b, off + i * 4 + 1, none⟩) HBWc.out).trans HX1c.out; have z0 := (hbu.cell (p := ⟨b, off + k * 4, none⟩) HBWc.out).trans HZ0c.out; have z1 := (hbu.cell (p := ⟨b, off + k * 4 + 1, none⟩) HBWc.out).trans HZ1c.out
                                    refine Mono.if_want rfl ?_
                                    have z229 : a.eval (.tmp 229) = .bool false := Mono.dep_at hdu (i := 13) (d := 229) rfl rfl rfl
                                    simp [Act.eval] at z229
                                    have z244 : a.eval (.tmp 244) = undef := Mono.dep_at hdu (i := 28) (d := 244) rfl rfl rfl
                                    simp [Act.eval] at z244
                                    exact Mono.ok_val (.bool false) (by simp [execOp, z229, z244, go_sem, c0, c1, z0, z1, hnz, hni, hy1, hy2]) rfl
                                intro u hu
                                simp only [Mono.Fin]
                                rintro _ rfl _ rfl _ rfl _ rfl _ rfl _ rfl _ rfl _ rfl _ rfl _ rfl _ rfl _ rfl _ rfl _ rfl _ rfl _ rfl _ rfl _ rfl _ rfl _ rfl _ rfl _ rfl _ rfl _ rfl _ rfl _ rfl _ rfl _ rfl _ rfl _ rfl
                                have HE := Lib.hid (show bZ = false by rw [← HBZ.out]; show (z.s == x.s && strOfNums z.data == strOfNums x.data) = false; rw [HZS.out, HXS.out, hy1]; simp)
                                have HU := Lib.hid hu
                                clear hu hy1 hy2
                                simp [Act.put]
                                go_wp2_with fail
                                go_meet
                                exact ⟨by rw [HE.out], HU.out⟩
                            case rest =>
                              obtain ⟨rfl, hbd⟩ := hcut
                              have HBd := Lib.hid (HBc.out.trans (hbd.out.mono HBc.out.size))
                              clear hbd
                              have HCT := Lib.hid (count_step HYM.out (kC x))
                              have HCZ := Lib.hid (countC_step (take_at HZM.out (by omega)) (kC x))
                              cases bZ with
                              | true =>
                                go_wp2_with fail
                                go_roundw
                                case rel => exact ⟨ca', cc + 1, k + 1, rfl, by go_num, by go_num, ⟨by omega, by have h1 := HK7.out; have h2 := HCA.out; split at h2 <;> omega, by have := HK7.out; omega⟩, ⟨by rw [HCT.out, ← HCC.out.1, HBY.out]; exact HCA.out.symm, by rw [HCZ.out, ← HCC.out.2, HBZ.out]; rfl⟩, HBd.out⟩
                                case measure => simp [intOf]; omega
                              | false =>
                                go_wp2_with fail
                                go_roundw
                                case rel => exact ⟨ca', cc, k + 1, rfl, rfl, by go_num, ⟨by omega, by have h1 := HK7.out; have h2 := HCA.out; split at h2 <;> omega, by have := HK7.out; omega⟩, ⟨by rw [HCT.out, ← HCC.out.1, HBY.out]; exact HCA.out.symm, by rw [HCZ.out, ← HCC.out.2, HBZ.out]; rfl⟩, HBd.out⟩
                                case measure => simp [intOf]; omega
                      · have hkz : ¬ (k : Int) < (cn : Int) := by omega
                        have hkb : decide ((k : Int) < (cn : Int)) = false := decide_eq_false hkz
                        have hce : ca = cc := by
                          have h1 := HCC.out.1
                          have h2 := HCC.out.2
                          have e1 : tl.take k = tl := List.take_of_length_le (by rw [HTL.out]; omega)
                          have e2 : (al.take 20).take k = al.take 20 := List.take_of_length_le (by rw [HCL.out]; omega)
                          rw [e1] at h1
                          rw [e2] at h2
                          rw [h1, h2]
                          exact HTOLD.out.cnt _
                        subst hce
                        go_wp2_with fail
                        go_roundw
                        case rel => exact ⟨i + 1, by go_num, show i + 1 ≤ cn by omega, HBL.out⟩
                        case measure => simp [intOf]; omega
                  · have hicz : ¬ (i : Int) < (cn : Int) := by omega
                    have hicb : decide ((i : Int) < (cn : Int)) = false := decide_eq_false hicz
                    go_wp2_with fail
                    go_ret
                    exact ⟨rfl, HB1.out.trans (HBL.out.mono HW1.out)⟩
end Go.Proofs.Yteiiifonejkjbaa.Fa
