/-
  The law AvpReserved: the walk.
-/
import Derived.Test.YtjfponhdlfhmbaaPlain3
import Derived.Test.YtjfponhdlfhmbaaOpsB
namespace Go.Proofs.Ytjfponhdlfhmbaa.Avp
open Go.RowKit Mem Cells Avps Wire Ops
set_option linter.unusedVariables false
set_option linter.unusedSimpArgs false

theorem _root_.Go.Proofs.Ytjfponhdlfhmbaa.Mem.Row.cell' {k : IntKind} {e B g n c : Nat} {w : World} {xs : List Int} (h : Mem.Row k e B w (.slice (some ⟨g, 0, none⟩) n c) xs) (j : Nat) (hj : j < xs.length) : w.cell? ⟨g, j, none⟩ = some (.int k (xs.getD j 0)) := by
  obtain ⟨_, _, rfl, _⟩ := Mem.Row.form h (by omega)
  exact (Mem.Row.cell h j hj).1
theorem shapeR {k : IntKind} {w : World} {v : Value} {xs : List Int} (h : Reads k w v xs) : ∃ p c, v = .slice p xs.length c ∧ xs.length ≤ c ∧ c ≤ maxLen := by
  obtain ⟨p, c, rfl, h1, h2, _⟩ := h
  exact ⟨p, c, rfl, h1, h2⟩
set_option maxRecDepth 100000 in
set_option maxHeartbeats 800000 in
theorem reserved_no (v : Value) (al : List A) (b0 fi : Int) (w : World) (hr : ReadsL w v al) (hok : ∀ a ∈ al, a.ok) (hd : ∀ a ∈ al, a.data.length ≤ 140737488351232) (he : putOf al = ([], 4)) :
    Calls Try.prog 6 #[v, .int .u8 b0, .int .u8 fi] w fun e w' => e = .returned (.bool true) ∧ Below w.heap.size w w' := by
  have PO := Lib.hid (own v al w hr (fun a ha => by have := hd a ha; omega))
  have PP := Lib.hid (fun v u (h : ReadsL u v (al.take 200)) => by have := avpPut v (al.take 200) u h (fun a ha => ⟨hok a (List.mem_of_mem_take ha), by have := hd a (List.mem_of_mem_take ha); omega⟩); rwa [putOf_take, he] at this)
  clear hok hd he hr
  have hx := Below.refl w.heap.size w
  go_enter Try.func6, Try.ntmps6
  go_wp2_with (first
    | (go_at_call 9; go_must (refine PO.out.mono ?_; rintro e u ⟨v1, rfl, hv1, hbu⟩; have hx1 := hx.trans (hbu.mono hx.size); clear hx; have hx := hx1; clear hx1))
    | (go_at_call 8; go_must (refine (PP.out _ _ hv1.reads).mono ?_; rintro e u ⟨v2, rfl, hv2, hbu⟩; have hx1 := hx.trans (hbu.mono hx.size); clear hx; have hx := hx1; clear hx1))
    | (go_at_call 11; go_must (refine (answers _).mono ?_; rintro e u ⟨rfl, hbu⟩; have hx1 := hx.trans (hbu.mono hx.size); clear hx; have hx := hx1; clear hx1)))
  go_ret
  exact ⟨rfl, hx⟩
set_option maxRecDepth 100000 in
set_option maxHeartbeats 1600000 in
theorem reserved_yes (v : Value) (al : List A) (X : List Int) (b0 fi : Int) (w : World) (hr : ReadsL w v al) (hok : ∀ a ∈ al, a.ok) (hd : ∀ a ∈ al, a.data.length ≤ 140737488351232) (he : putOf al = (X, 0)) (hb0 : 0 ≤ b0 ∧ b0 ≤ 255) (hfi : 0 ≤ fi ∧ fi ≤ 255) :
    Calls Try.prog 6 #[v, .int .u8 b0, .int .u8 fi] w fun e w' => e = .returned (.bool true) ∧ Below w.heap.size w w' := by
  obtain ⟨p1, c1, rfl, q11, q12⟩ := hr.shape
  have PO := Lib.hid (own _ al w hr (fun a ha => by have := hd a ha; omega))
  have PP := Lib.hid (fun v u (h : ReadsL u v (al.take 200)) => by have := avpPut v (al.take 200) u h (fun a ha => ⟨hok a (List.mem_of_mem_take ha), by have := hd a (List.mem_of_mem_take ha); omega⟩); rwa [putOf_take, he] at this)
  obtain ⟨x1, x2, x3, x4, x5⟩ := put_ok he hok
  have hdx : ∀ a ∈ al, a.data.length ≤ 4096 := fun a ha => by
    have := enc_data 0 0 a al ha
    rw [← x2] at this; omega
  obtain ⟨r, hr31⟩ : ∃ r, bits .and .u8 b0 31 = r := ⟨_, rfl⟩
  have hrb := and31 b0 hb0
  rw [hr31] at hrb
  have PG := Lib.hid (fun v u (h : Reads .u8 u v (encAll r fi al)) => by have := avpGet v (encAll r fi al) u h (encAll_wf al hok r fi hrb hfi); rwa [get_put r fi hrb al (fun a ha => ⟨hok a ha, hdx a ha⟩) x1 (by rw [encAll_len al r fi 0 0, ← x2]; exact x3)] at this)
  have SA := Lib.hid (fun v v' u (h : ReadsL u v al) (h' : ReadsL u v' al) => sameAll v v' al al u h h' hok hok)
  have HR := Lib.hid hr
  have HOK := Lib.hid hok
  have HDX := Lib.hid hdx
  have HX2 := Lib.hid x2
  have hxl : ∀ k, (mid al r fi k).length = X.length := fun k => by
    unfold mid
    rw [List.length_append, encAll_len _ r fi 0 0, ← List.length_append, ← encAll_append, List.take_append_drop, x2]
  have HXL := Lib.hid hxl
  clear hr hok hd he x2 x4 x5 hdx hxl
  have hx := Below.refl w.heap.size w
  go_enter Try.func6, Try.ntmps6
  go_wp2_with (first
    | (go_at_call 9; go_must (refine PO.out.mono ?_; rintro e u ⟨v1, rfl, hv1, hbu⟩; have hx1 := hx.trans (hbu.mono hx.size); have hwu := hx.size; clear hx; have hx := hx1; clear hx1))
    | (go_at_call 8; go_must (refine (PP.out _ _ hv1.reads).mono ?_; rintro e u ⟨v2, rfl, hv2, hbu⟩; have hx1 := hx.trans (hbu.mono hx.size); have hv2' := hv2.mono hx.size; clear hv2; have hv2 := hv2'; clear hv2'; obtain ⟨px, cx, rfl, _, _⟩ := shapeR hv2.reads; clear hx hwu; have hx := hx1; clear hx1 hv1))
    | (go_at_call 11; go_must (refine (answers _).mono ?_; rintro e u ⟨rfl, hbu⟩; have hx1 := hx.trans (hbu.mono hx.size); have hv2' := hv2.below hbu; clear hx hv2 hbu; have hx := hx1; have hv2 := hv2'; clear hx1 hv2')))
  clear PO PP
  have hq13 : al.length ≤ 9223372036854775807 := by omega
  go_loopw [9, 10] (fun a i wr => ∃ (k : Nat) (at_ : Nat) (ys : List Int), a = .int .i64 at_ ∧ i = .int .i64 k ∧ k ≤ al.length ∧ at_ ≤ 4096 ∧ Row .u8 5 w.heap.size wr (.slice px X.length cx) ys ∧ Below w.heap.size w wr ∧ Hid (ys = mid al r fi k ∧ at_ = (encAll r fi (al.take k)).length)) (fun _ i _ => al.length - (intOf i).toNat)
  case atStart => exact ⟨0, 0, X, rfl, rfl, by omega, by omega, hv2, hx, Lib.hid ⟨by rw [mid_zero, HX2.out], by simp [encAll]⟩⟩
  case round =>
    clear hv2 hx
    obtain ⟨k, at_, ys, rfl, rfl, hk, hat, hrow, hbl, HY⟩ := hrel
    by_cases hlt : k < al.length
    · obtain ⟨x, hxk⟩ : ∃ x, al[k]? = some x := ⟨al[k], List.getElem?_eq_getElem hlt⟩
      have hxm : x ∈ al := List.mem_of_getElem? hxk
      obtain ⟨pre, hpre⟩ : ∃ pre, encAll r fi (al.take k) = pre := ⟨_, rfl⟩
      obtain ⟨post, hpost⟩ : ∃ post, encAll 0 0 (al.drop (k + 1)) = post := ⟨_, rfl⟩
      have hpl : pre.length = at_ := by rw [← hpre, HY.out.2]
      have hys : ys = pre ++ encG 0 0 x ++ post := by rw [HY.out.1, mid_at r fi hxk, hpre, hpost]
      have hyl : ys.length = X.length := by rw [HY.out.1, HXL.out k]
      obtain ⟨n, hn⟩ : ∃ n, bodyN x = n := ⟨_, rfl⟩
      obtain ⟨m, hm⟩ : ∃ m, (padN x.data.length).toNat = m := ⟨_, rfl⟩
      have hni := bodyN_int x
      have hpb := padN_bd x.data.length
      have hdx := HDX.out x hxm
      have hhb := headN_bd (venB x)
      have hel := encG_len 0 0 x
      have hsum : at_ + (n + m) + post.length = X.length := by
        rw [← hyl, hys, List.length_append, List.length_append, hel, hpl, hn, hm]
      have hn8 : 8 ≤ n := by omega
      have hm3 : m ≤ 3 := by omega
      have hN : getN ys (at_ + 5) 3 = n := by rw [hys, ← hpl, len_enc pre post x hdx, ← hni, hn]
      have hwfy : ∀ z ∈ ys, 0 ≤ z ∧ z ≤ 255 := by
        intro z hz
        rw [hys] at hz
        rcases List.mem_append.1 hz with hz | hz
        · rcases List.mem_append.1 hz with hz | hz
          · rw [← hpre] at hz
            exact encAll_wf _ (fun a ha => HOK.out a (List.mem_of_mem_take ha)) r fi hrb hfi z hz
          · exact encG_wf x (HOK.out x hxm) 0 0 (by omega) (by omega) z hz
        · rw [← hpost] at hz
          exact encAll_wf _ (fun a ha => HOK.out a (List.mem_of_mem_drop ha)) 0 0 (by omega) (by omega) z hz
      have RN := Lib.hid (fun u (h : Reads .u8 u (.slice px X.length cx) ys) => by
        have := refNum (.slice px X.length cx) ys (at_ + 5) 3 u h hwfy (by omega) (by omega) (by omega) (by rw [hN]; omega)
        rwa [hN] at this)
      have hpm : padN (n : Int) = m := by rw [← hn, hni, padN_body]; omega
      have PD := Lib.hid (fun u => by have := refPad (n : Int) u (by omega); rwa [hpm] at this)
      have hfl := get_flag pre post x
      obtain ⟨fl, hfl0⟩ : ∃ fl, flagN x = fl := ⟨_, rfl⟩
      have hor := orFlag x r hrb
      have hs1 : ys.set (at_ + 4) (fl + r) = pre ++ encH r fi 0 x ++ post := by
        rw [hys, ← hpl, set_pre _ _ _ _ _ (by omega), ← hfl0, set_flag, encH_zero]
      have hfill : ∀ q, q < m → (pre ++ encH r fi q x ++ post).set (at_ + n + q) fi = pre ++ encH r fi (q + 1) x ++ post := by
        intro q hq
        rw [← hpl, Nat.add_assoc, set_pre _ _ _ _ _ (by rw [encH_len r fi q x (by omega)]; omega), ← hn, set_fill x r fi q (by omega)]
      have hlenH : ∀ q, q ≤ m → (pre ++ encH r fi q x ++ post).length = X.length := by
        intro q hq
        rw [List.length_append, List.length_append, encH_len r fi q x (by omega), hn, hm, hpl, hsum]
      have hend : pre ++ encH r fi m x ++ post = mid al r fi (k + 1) := by
        rw [← hm, encH_all, mid_next r fi hxk, hpre, hpost]
      have hat2 : at_ + n + m = (encAll r fi (al.take (k + 1))).length := by
        obtain ⟨h1, e1⟩ := List.getElem?_eq_some_iff.1 hxk
        rw [List.take_succ_eq_append_getElem h1, encAll_append, hpre, e1, List.length_append, hpl]
        simp [encAll, encG_len]
        omega
      have hflb : ys.getD (at_ + 4) 0 = fl := by rw [hys, ← hpl, hfl, hfl0]
      rw [hfl0] at hor
      obtain ⟨g, rfl, hxe, hgB, hgl⟩ := hrow.form (by omega)
      clear hxe
      have hrd := hrow.reads
      have HS1 := Lib.hid hs1
      have HFILL := Lib.hid hfill
      have HLEN := Lib.hid hlenH
      have HEND := Lib.hid hend
      have HAT2 := Lib.hid hat2
      have HYL := Lib.hid hyl
      have HFLB := Lib.hid hflb
      have HSUM : at_ + (n + m) + post.length ≤ X.length := by omega
      clear hxk hxm hpre hpost hpl hys hyl hn hm hni hpb hdx hhb hel hsum hN hwfy hpm hfl hfl0 hs1 hfill hlenH hend hat2 hflb
      obtain ⟨wo, rfl⟩ : ∃ wo : World, wo = wr := ⟨_, rfl⟩
      go_wp2_with (first
        | (go_at_call 15; go_must (refine (RN.out _ hrd).mono ?_; rintro e u ⟨rfl, hbu⟩; have hrow1 := hrow.below hbu; have hbl1 := hbl.trans (hbu.mono hbl.size); have hc := (hrow1.cell' (at_ + 4) (by have := HYL.out; omega)); rw [HFLB.out] at hc; clear hrd hbu hbl))
        | ((with_reducible refine wpl_storeB rfl 5 (.tmp 50) (.tmp 49) rfl rfl .u8 w.heap.size 5 g X.length cx (at_ + 4) ys (fl + r) ?_ ?_ hrow1 ?_ ?_ (by kernel_rfl) ?_); rfl; rfl; exact HYL.out.symm; (have := HYL.out; omega); go_must (intro u hrow2 hgu; rw [HS1.out] at hrow2; have hbl2 := hbl1.grown hgu hbl1.size (fun q e => by cases e; exact hgB); clear hrow1 hbl1 hc hgu)))
      go_loopw [12] (fun j wr => ∃ (q : Nat) (zs : List Int), j = .int .i64 q ∧ q ≤ m ∧ Row .u8 5 w.heap.size wr (.slice (some ⟨g, 0, none⟩) X.length cx) zs ∧ Below w.heap.size w wr ∧ Hid (zs = pre ++ encH r fi q x ++ post)) (fun j _ => m - (intOf j).toNat)
      case atStart => exact ⟨0, _, rfl, by omega, hrow2, hbl2, Lib.hid rfl⟩
      case round =>
        clear hrow2 hbl2
        obtain ⟨q, zs, rfl, hq, hrow3, hbl3, HZ⟩ := hrel
        have hzl : zs.length = X.length := by rw [HZ.out]; exact HLEN.out q hq
        have HZL := Lib.hid hzl
        clear hzl
        by_cases hqm : q < m
        · have hset : zs.set (at_ + n + q) fi = pre ++ encH r fi (q + 1) x ++ post := by rw [HZ.out]; exact HFILL.out q hqm
          have HSET := Lib.hid hset
          clear hset
          go_wp2_with (first
            | (go_at_call 16; go_must (refine (PD.out _).mono ?_; rintro e u ⟨rfl, rfl⟩))
            | ((with_reducible refine wpl_storeB rfl 5 (.tmp 64) (.tmp 63) rfl rfl .u8 w.heap.size 5 g X.length cx (at_ + n + q) zs fi ?_ ?_ hrow3 ?_ ?_ (by kernel_rfl) ?_); rfl; rfl; exact HZL.out.symm; (have := HZL.out; omega); go_must (intro u hrow4 hgu; rw [HSET.out] at hrow4; have hbl4 := hbl3.grown hgu hbl3.size (fun q e => by cases e; exact hgB); clear hrow3 hbl3 hgu)))
          go_roundw
          case rel => exact ⟨q + 1, _, by go_num, by omega, hrow4, hbl4, Lib.hid rfl⟩
          case measure => simp [intOf]; omega
        · obtain rfl : q = m := by omega
          go_wp2_with (first
            | (go_at_call 16; go_must (refine (PD.out _).mono ?_; rintro e u ⟨rfl, rfl⟩)))
          go_roundw
          case rel => exact ⟨k + 1, at_ + n + q, zs, by go_num, by go_num, by omega, by omega, hrow3, hbl3, Lib.hid ⟨by rw [HZ.out, HEND.out], HAT2.out⟩⟩
          case measure => simp [intOf]; omega
    · obtain rfl : k = al.length := by omega
      have hys : ys = encAll r fi al := by rw [HY.out.1, mid_all _ _ _ _ (Nat.le_refl _)]
      rw [hys] at hrow
      clear hys
      have hx := hbl
      go_wp2_with (first
        | (go_at_call 12; go_must (refine (PG.out _ _ hrow.reads).mono ?_; rintro e u ⟨v3, rfl, hv3, hbu⟩; have hx1 := hx.trans (hbu.mono hx.size); clear hx hrow hbu; have hx := hx1; clear hx1))
        | (go_at_call 14; go_must (refine (SA.out _ _ _ hv3.reads (HR.out.below hx)).mono ?_; rintro e u ⟨rfl, hbu⟩; have hx1 := hx.trans (hbu.mono hx.size); clear hx hv3 hbu; have hx := hx1; clear hx1)))
      go_ret
      exact ⟨rfl, hx⟩
theorem reserved (v : Value) (al : List A) (b0 fi : Int) (w : World) (hr : ReadsL w v al) (hok : ∀ a ∈ al, a.ok) (hd : ∀ a ∈ al, a.data.length ≤ 140737488351232) (hb0 : 0 ≤ b0 ∧ b0 ≤ 255) (hfi : 0 ≤ fi ∧ fi ≤ 255) :
    Calls Try.prog 6 #[v, .int .u8 b0, .int .u8 fi] w fun e w' => e = .returned (.bool true) ∧ Below w.heap.size w w' := by
  rcases put_no al with ⟨X, he⟩ | he
  · exact reserved_yes v al X b0 fi w hr hok hd he hb0 hfi
  · exact reserved_no v al b0 fi w hr hok hd he
end Go.Proofs.Ytjfponhdlfhmbaa.Avp
