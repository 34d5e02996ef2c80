/-
  Contract: Cutter.Cut (10).
-/
import Derived.Test.YteiiifonejkjbaaChunk2
import Derived.Test.YteiiifonejkjbaaPcs
import Derived.Test.YteiiifonejkjbaaBlks
import Derived.Test.YteiiifonejkjbaaCut0
import Derived.Test.YteiiifonejkjbaaCutI
import Derived.RangeFuncWrites
namespace Go.Proofs.Yteiiifonejkjbaa.Chunk
open Go.RowKit Go.Shelf Mem Cells Ops Pcs
set_option linter.unusedVariables false
set_option linter.unusedSimpArgs false
attribute [local go_sem] Oper.semAt_some

/-- The eight numbers of a cutter. -/
def nxA (nx : Nat → Int) : Array Value := #[.int .u16 (nx 0), .int .u16 (nx 1), .int .u16 (nx 2), .int .u16 (nx 3), .int .u16 (nx 4), .int .u16 (nx 5), .int .u16 (nx 6), .int .u16 (nx 7)]
theorem nxA_get (nx : Nat → Int) (s : Nat) (h : s < 8) : (nxA nx)[s]? = some (.int .u16 (nx s)) := by
  match s, h with
  | 0, _ | 1, _ | 2, _ | 3, _ | 4, _ | 5, _ | 6, _ | 7, _ => rfl
def upd (nx : Nat → Int) (s : Nat) (v : Int) : Nat → Int := fun i => if i = s then v else nx i
theorem nxA_set (nx : Nat → Int) (s : Nat) (h : s < 8) (v : Int) : (nxA nx).set! s (.int .u16 v) = nxA (upd nx s v) := by
  match s, h with
  | 0, _ | 1, _ | 2, _ | 3, _ | 4, _ | 5, _ | 6, _ | 7, _ => rfl

theorem u8_ne {w : World} {b off L cap gC : Nat} {xs : List Int} {nx : Nat → Int} (hr : Reads .u8 w (.slice (some ⟨b, off, none⟩) L cap) xs) (h0 : 0 < L) (hat : At w gC 66 (nxA nx)) : b ≠ gC := by
  intro e
  subst e
  obtain ⟨_, _, e, _, _, _, h4⟩ := hr
  cases e
  obtain ⟨b', off', e', hlt, hc⟩ := h4 h0
  cases e'
  have h1 := hc 0 h0
  rw [hat.cell] at h1
  have h2 : off + 0 < (nxA nx).size := (Array.getElem?_eq_some_iff.1 h1).1
  rw [nxA_get nx (off + 0) h2] at h1
  cases h1
def cutSq (un : Bool) (nx : Nat → Int) (s : Nat) : Int := if un then 0 else nx s
def cutNx (un : Bool) (nx : Nat → Int) (s : Nat) : Nat → Int := if un then nx else upd nx s (IntKind.u16.wrap (nx s + 1))

set_option maxRecDepth 100000 in
set_option maxHeartbeats 1600000 in
theorem cutOrd (w : World) (gC : Nat) (nx : Nat → Int) (hat : At w gC 66 (nxA nx)) (s : Nat) (hs : s < 8) (b off cap L sz : Nat) (xs : List Int) (un : Bool) (hr : Reads .u8 w (.slice (some ⟨b, off, none⟩) L cap) xs) (hL0 : 0 < L) (hL : L ≤ 4096) (hsz : 0 < sz) (hsz' : sz ≤ 256) :
    Calls Try.prog 10 #[.pointer (some ⟨gC, 0, none⟩), .agg #[.int .u16 s, .slice (some ⟨b, off, none⟩) L cap], .bool un, .int .i64 sz] w fun e w' => ∃ v k, e = .returned (.tuple #[v, .int .i64 0]) ∧ L ≤ k * sz ∧ (k - 1) * sz < L ∧ OwnQ w.heap.size w' v (PE s (cutSq un nx s) un xs sz k) ∧ At w' gC 66 (nxA (cutNx un nx s)) ∧ ButX (fun k => k = gC) w w' := by
  have l0 : ((L : Int) == 0) = false := by simp; omega
  have s8z : ¬ (8 : Int) ≤ (s : Int) := by omega
  have s8 : decide ((8 : Int) ≤ (s : Int)) = false := decide_eq_false s8z
  have z1z : ¬ (sz : Int) < 1 := by omega
  have z1 : decide ((sz : Int) < 1) = false := decide_eq_false z1z
  have z2z : ¬ (256 : Int) < (sz : Int) := by omega
  have z2 : decide ((256 : Int) < (sz : Int)) = false := decide_eq_false z2z
  have lz : ¬ (4096 : Int) < (L : Int) := by omega
  have lb : decide ((4096 : Int) < (L : Int)) = false := decide_eq_false lz
  refine (callsIn_wide (n := 6)).1 (callsIn_of_wp_marks Try.func10 rfl trivial ?_ rfl)
  refine wpIn_wide.2 ?_
  simp only [Try.ntmps10, List.size_toArray, List.length_cons, List.length_nil, Nat.reduceAdd, Nat.reduceSub, Array.replicate_succ, Array.replicate_zero, List.push_toArray, List.append_toArray, List.nil_append, List.cons_append]
  go_upto_if 45 with (first
    | ((with_reducible refine wpl_boxAt rfl 32 (.tmp 1) rfl #[.int .u16 s, .slice (some ⟨b, off, none⟩) L cap] ?_ ?_); rfl; go_must (intro w1 hat1 hb1 hs1; have m0 := hat1.cell 0; have m1 := hat1.cell 1; simp at m0 m1; have hatC1 := hat.ext hb1))
    | ((with_reducible refine wpl_allocAt rfl 45 rfl #[.int .u32 0, .int .u16 0, .int .u16 0, .bool false, .bool false, .bool false, .slice none 0 0] (by kernel_rfl) ?_); go_must (intro w2 hat2 hb2 hs2; rw [hs1] at hat2 hs2 ⊢; have hatm2 := hat1.ext hb2; have hatC2 := hatC1.ext hb2; have hu2 := hb1.trans (hb2.mono hb1.size); clear m0 m1 hat1 hatC1 hb1 hb2))
    | ((with_reducible refine wpl_storeR rfl 45 (.tmp 10) (.tmp 43) rfl rfl (w.heap.size + 1) 45 #[.int .u32 0, .int .u16 0, .int .u16 0, .bool false, .bool false, .bool false, .slice none 0 0] #[.int .u32 0, .int .u16 s, .int .u16 0, .bool false, .bool false, .bool un, .slice none 0 0] ?_ ?_ hat2 (by kernel_rfl) ?_ ?_ ?_); rfl; rfl; rfl; (simp [Value.oneCell']); go_must (intro w3 hat3 hg3; have hu3 := below_grown hu2 hg3 hu2.size (by omega); have hatm3 := hatm2.grown hg3 (by omega); have hatC3 := hatC2.grown hg3 (by have := hat.lt; omega); have hs3 := hg3.size; clear hu2 hg3 hatm2 hatC2 hat2)))
  have hltC := hat.lt
  go_cut [] from 46 to 64 (fun wx => At wx gC 66 (nxA (cutNx un nx s)) ∧ At wx (w.heap.size + 1) 45 #[.int .u32 0, .int .u16 s, .int .u16 (cutSq un nx s), .bool false, .bool false, .bool un, .slice none 0 0] ∧ At wx w.heap.size 32 #[.int .u16 s, .slice (some ⟨b, off, none⟩) L cap] ∧ ButX (fun k => k = gC) w wx ∧ w.heap.size + 1 + 1 ≤ wx.heap.size)
  case first =>
    cases un with
    | true =>
      go_wp2_with fail
      go_meet
      exact ⟨hatC3, hat3, hatm3, ButX.ofBelow hu3, by omega⟩
    | false =>
      go_upto_region 7 with fail
      have m0 := hatm3.cell 0
      simp at m0
      have s8c : (s : Int) < 8 := by omega
      have s8d : ¬ (s : Int) < 0 := by omega
      have s8e : (0 : Int) ≤ (s : Int) := by omega
      have p2 := hatC3.cell s
      rw [nxA_get nx s hs] at p2
      go_still_tail 8, (by kernel_rfl)
      change wpList _ _ _ _ _ w3.drew
      have hbd : Below w3.heap.size w3 w3.drew := (Below.refl _ _).drew
      have hatm4 := hatm3.drew
      have hatC4 := hatC3.drew
      have hat4 := hat3.drew
      have hu4 := hu3.trans (hbd.mono hu3.size)
      have hs4 := hbd.size
      generalize w3.drew = w4 at hatm4 hatC4 hat4 hu4 hs4
      clear hbd m0 p2 hatm3 hatC3 hat3 hu3
      go_upto_region 8 with ((with_reducible refine wpl_storeC rfl 26 (.tmp 53) (.tmp 52) rfl rfl (w.heap.size + 1) 2 45 #[.int .u32 0, .int .u16 s, .int .u16 0, .bool false, .bool false, .bool false, .slice none 0 0] #[.int .u32 0, .int .u16 s, .int .u16 (nx s), .bool false, .bool false, .bool false, .slice none 0 0] (.int .u16 (nx s)) ?_ ?_ hat4 ?_ (by kernel_rfl) ?_ ?_ ?_); rfl; rfl; exact (show (2 : Nat) < 7 by decide); rfl; rfl; go_must (intro w5 hat5 hg5; have hu5 := below_grown hu4 hg5 hu4.size (by omega); have hatm5 := hatm4.grown hg5 (by omega); have hatC5 := hatC4.grown hg5 (by have := hat.lt; omega); have hs5 := hg5.size; clear hu4 hg5 hatm4 hatC4 hat4))
      have m0 := hatm5.cell 0
      simp at m0
      have p2 := hatC5.cell s
      rw [nxA_get nx s hs] at p2
      go_still_tail 11, (by kernel_rfl)
      change wpList _ _ _ _ _ w5.drew
      have hbd : Below w5.heap.size w5 w5.drew := (Below.refl _ _).drew
      have hatm6 := hatm5.drew
      have hatC6 := hatC5.drew
      have hat6 := hat5.drew
      have hu6 := hu5.trans (hbd.mono hu5.size)
      have hs6 := hbd.size
      generalize w5.drew = w6 at hatm6 hatC6 hat6 hu6 hs6
      clear hbd m0 p2 hatm5 hatC5 hat5 hu5
      go_upto_region 9 with ((with_reducible refine wpl_storeC rfl 26 (.tmp 64) (.tmp 61) rfl rfl gC s 66 (nxA nx) (nxA (upd nx s (IntKind.u16.wrap (nx s + 1)))) (.int .u16 (IntKind.u16.wrap (nx s + 1))) ?_ ?_ hatC6 ?_ (by kernel_rfl) ?_ ?_ ?_); rfl; rfl; exact (show s < 8 from hs); rfl; exact nxA_set nx s hs _; go_must (intro w7 hatC7 hg7; have hat7 := hat6.grown hg7 (by have := hat.lt; omega); have hatm7 := hatm6.grown hg7 (by have := hat.lt; omega); have hu7 : ButX (fun k => k = gC) w w7 := (ButX.ofBelow hu6).trans ((ButX.ofGrown hg7 (fun k e => (Option.some.inj e).symm)).mono more_self); have hs7 := hg7.size; clear hu6 hg7 hatm6 hatC6 hat6))
      go_wp2_with fail
      go_meet
      exact ⟨hatC7, hat7, hatm7, hu7, by omega⟩
  case rest =>
    clear hat3 hatm3 hatC3 hu3 hs2 hs3
    obtain ⟨hatC, hatp, hatm, hbx, hsz70⟩ := hcut
    have m1 := hatm.cell 1
    simp at m1
    go_wp2_with (first
      | ((with_reducible refine wpl_allocAt rfl 35 rfl #[.slice none 0 0] (by kernel_rfl) ?_); go_must (intro wd hatO hbO hsO; have hatp1 := hatp.ext hbO; have hatC1 := hatC.ext hbO; have hatm1 := hatm.ext hbO; have m1' := hatm1.cell 1; simp at m1'))
      | (go_at_call 21; go_must (refine (chunk21 _ L cap sz hsz _).mono ?_; rintro e we ⟨rfl, rfl⟩)))
    obtain ⟨W0, hW0⟩ : ∃ W0, (wd.alloc (.cells #[.slice (some ⟨b, off, none⟩) L cap] 30)).alloc (.cells #[.int .i64 sz] 3) = W0 := ⟨_, rfl⟩
    have hatA : At W0 wd.heap.size 30 #[.slice (some ⟨b, off, none⟩) L cap] := by rw [← hW0]; exact (At.new _ _ _).alloc _
    have hatB : At W0 (wd.heap.size + 1) 3 #[.int .i64 sz] := by rw [← hW0]; exact At.new1 _ _ _ _
    have hatP0 : At W0 (w.heap.size + 1) 45 #[.int .u32 0, .int .u16 s, .int .u16 (cutSq un nx s), .bool false, .bool false, .bool un, .slice none 0 0] := by rw [← hW0]; exact (hatp1.alloc _).alloc _
    have hatO0 : At W0 wc.heap.size 35 #[.slice none 0 0] := by rw [← hW0]; exact (hatO.alloc _).alloc _
    rw [hsO] at hatA hatB
    have hlA := hatA.cell 0
    have hlB := hatB.cell 0
    simp at hlA hlB
    rw [hW0]
    have hLx := Lib.hid (show L = xs.length by obtain ⟨_, _, e, _⟩ := hr; cases e; rfl)
    have hbl : b < w.heap.size := by obtain ⟨_, _, e, _, _, _, h4⟩ := hr; cases e; obtain ⟨b', _, e', h, _⟩ := h4 hL0; cases e'; exact h
    have hbW : Below wc.heap.size wc W0 := by rw [← hW0]; exact (hbO.alloc (by omega) _).alloc (by simp; omega) _
    have hbx0 : ButX (fun k => k = gC) w W0 := ButX.trans hbx (ButX.ofBelow hbW)
    have HR0 := Lib.hid (reads_but hr hbx0 (fun e => u8_ne hr hL0 hat e))
    have hB0 : wc.heap.size + 1 ≤ W0.heap.size := by have := hbW.size; have := hatO0.lt; omega
    refine (wpIn_wide (n := 6)).1 ?_
    refine wpIn_rangeFunc_ownG rfl (by omega) (gf := 30) (lb := #[.pointer (some ⟨wc.heap.size + 1, 0, none⟩), .pointer (some ⟨wc.heap.size + 1 + 1, 0, none⟩)]) rfl trivial (enters_of Try.func30 (by kernel_rfl) rfl)
      (chunk_stops 5 (by omega) (wc.heap.size + 1) (wc.heap.size + 1 + 1) b off L cap sz hsz hsz' hL (by obtain ⟨_, _, e, h1, h2, _⟩ := hr; cases e; exact h1) (by obtain ⟨_, _, e, h1, h2, _⟩ := hr; cases e; exact h2) W0 hlA hlB hatA.lt hatB.lt)
      Kp_t (kp_putObj hatA.lt hatB.lt) (Below.refl _ _) (fun _ => rfl)
      (Mid W0 wc.heap.size (w.heap.size + 1) s (cutSq un nx s) un xs sz) (fun _ _ _ => False) (mid_own _ _ _ _ _ _ _ _) (fun _ _ _ _ _ hs _ _ => hs)
      ⟨⟨_, _, false, hatO0, hatP0, OwnQ.nil _ _⟩, ButX.refl _ _⟩ ?a1 ?assign ?body ?done ?stop
    case assign =>
      intro l x W K hK
      simp only [piece]
      gi_wp2
      exact hK
    case stop =>
      rintro D c pre W _ _ h _
      exact h.elim
    case body =>
      rintro l pre x W ⟨⟨v, d, bg, hO, hP, hQ⟩, hbx1⟩ hlt
      have hrW := piece_reads (sz := sz) (hLx.out ▸ reads_but HR0.out hbx1 (fun e => by omega)) x
      rw [← hLx.out] at hrW
      have HR := Lib.hid hrW
      have HB1 := Lib.hid hbx1
      have hBW := hbx1.size
      obtain ⟨pv, cv, rfl, hcv1, hcv2⟩ := hQ.shape
      rw [PL_length] at hO hQ
      obtain ⟨n0, hn0⟩ : ∃ n0, pre.length = n0 := ⟨_, rfl⟩
      have HN0 := Lib.hid hn0
      rw [hn0] at hO hQ hlt
      obtain ⟨nb, hnb⟩ : ∃ nb, ((n0 : Int) == 0) = nb := ⟨_, rfl⟩
      have HD := Lib.hid (show ((xs.drop x).take sz).length ≤ 140737488355328 by simp; omega)
      obtain ⟨nl, hnl⟩ : ∃ nl, ((xs.drop x).take sz).length = nl := ⟨_, rfl⟩
      have HLN := Lib.hid hnl
      have HQ := Lib.hid hQ
      clear hrW hQ hbx1 hcv1 hcv2 hn0 hnl
      gi_wp2_with (first
        | (refine ⟨trivial, ?_⟩; gi_at_call 22; go_must (refine (CallsIn.inRound l (callsIn_wide.2 (clone _ _ _ HR.out HD.out))).mono ?_; rintro e W1 ⟨d1, rfl, hd1, hb1⟩; obtain ⟨pd, cd, hvd, _⟩ := id hd1.reads; rw [HLN.out] at hvd; subst hvd; have hO1 := hO.ext hb1; have hP1 := hP.ext hb1; have HQ1 := Lib.hid (HQ.out.below hb1); have HD1 := Lib.hid (hd1.mono hBW); have HK1 := Lib.hid (keeps_below (B := W0.heap.size) hb1); have HG1 := Lib.hid hb1.size; have HX1 := Lib.hid (ButX.ofBelow (X := RX W0.heap.size wc.heap.size (w.heap.size + 1)) hb1); clear hd1 hb1 HQ))
        | ((with_reducible refine wpListIn_storeC rfl 30 (.tmp 72) (.tmp 71) rfl rfl (w.heap.size + 1) 6 45 (row ⟨0, s, cutSq un nx s, bg, false, un, []⟩ d).toArray (row ⟨0, s, cutSq un nx s, bg, false, un, []⟩ (.slice pd nl cd)).toArray (.slice pd nl cd) ?_ ?_ hP1 ?_ (by kernel_rfl) ?_ ?_ ?_); rfl; rfl; exact (show (6 : Nat) < 7 by decide); rfl; rfl; go_must (intro W2 hP2 hg2; have hO2 := hO1.grown hg2 (by omega); have HQ2 := Lib.hid (HQ1.out.ahead hg2 (by omega)); have HD2 := Lib.hid (HD1.out.kept hg2 (.inr (own_ne HD1.out hP1 (by decide)))); have o20 := hO2.cell 0; simp at o20; have HK2 := Lib.hid (HK1.out.trans (keeps_before hg2 (by omega))); have HG2 := Lib.hid (Nat.le_trans HG1.out hg2.size); have HX2 := Lib.hid (rx_at HX1.out hg2 (.inl rfl)); clear HX1 hg2 hP1 hO1 HQ1 HD1 HK1 HG1))
        | ((with_reducible refine wpListIn_storeC rfl 4 (.tmp 76) (.tmp 75) rfl rfl (w.heap.size + 1) 3 45 (row ⟨0, s, cutSq un nx s, bg, false, un, []⟩ (.slice pd nl cd)).toArray (row ⟨0, s, cutSq un nx s, nb, false, un, []⟩ (.slice pd nl cd)).toArray (.bool nb) ?_ ?_ hP2 ?_ (by kernel_rfl) ?_ ?_ ?_); rfl; (first | rfl | (rw [← hnb]; rfl)); exact (show (3 : Nat) < 7 by decide); rfl; rfl; go_must (intro W3 hP3 hg3; have hO3 := hO2.grown hg3 (by omega); have HQ3 := Lib.hid (HQ2.out.ahead hg3 (by omega)); have HD3 := Lib.hid (HD2.out.kept hg3 (.inr (own_ne HD2.out hP2 (by decide)))); have o30 := hO3.cell 0; simp at o30; have p30 := hP3.cell 0; have p31 := hP3.cell 1; have p32 := hP3.cell 2; have p33 := hP3.cell 3; have p34 := hP3.cell 4; have p35 := hP3.cell 5; have p36 := hP3.cell 6; simp [row] at p30 p31 p32 p33 p34 p35 p36; have HK3 := Lib.hid (HK2.out.trans (keeps_before hg3 (by omega))); have HG3 := Lib.hid (Nat.le_trans HG2.out hg3.size); have HX3 := Lib.hid (rx_at HX2.out hg3 (.inl rfl)); clear HX2 hg3 hP2 hO2 HQ2 HD2 HK2 HG2 o20))
        | ((with_reducible refine wpListIn_pushQ 79 (.tmp 78) (.tmp 77) rfl rfl rfl rfl rfl rfl ⟨0, s, cutSq un nx s, nb, false, un, (xs.drop x).take sz⟩ (.slice pd nl cd) ?_ W0.heap.size (.slice pv n0 cv) (PL s (cutSq un nx s) un xs sz pre) ?_ ?_ HQ3.out HD3.out ?_ ?_ ?_); rfl; (intro u; rfl); (intro u; rfl); exact Nat.le_trans hBW HG3.out; (rw [PL_length, HN0.out]; omega); go_must (intro v4 W4 hq4 hg4; have hne4 := own_at_ne HQ3.out hO3 (by decide); have hP4 := hP3.kept' hg4 (own_lt_ne HQ3.out (by omega)); have HX4 := Lib.hid (rx_own HX3.out HQ3.out hg4); have HK4 := Lib.hid (HK3.out.trans (by obtain ⟨zs, _, h2, _⟩ := HQ3.out; exact keeps_own h2 hg4)); have hO4 := hO3.kept' hg4 hne4; have HQ4 := Lib.hid hq4; have HG4 := Lib.hid hg4; obtain ⟨p4, c4, hv4, _⟩ := HQ4.out.shape; rw [List.length_append, PL_length, HN0.out, List.length_singleton] at hv4; subst hv4; clear hq4 hg4))
        | ((with_reducible refine wpListIn_storeC rfl 35 (.tmp 11) (.tmp 80) rfl rfl wc.heap.size 0 35 #[.slice pv n0 cv] #[.slice p4 (n0 + 1) c4] (.slice p4 (n0 + 1) c4) ?_ ?_ hO4 ?_ (by kernel_rfl) ?_ ?_ ?_); rfl; rfl; exact (show (0 : Nat) < 1 by decide); rfl; rfl; go_must (intro W5 hO5 hg5; have hP5 := hP4.grown hg5 (by omega); have HQ5 := HQ4.out.ahead hg5 (by omega); have HX5 := rx_at HX4.out hg5 (.inr rfl); have HK5 := HK4.out.trans (keeps_before hg5 (by omega)))))
      refine ⟨HK5, rx_kp HX5 hatA.lt hatB.lt hBW (by omega) (by omega) (by omega) (by omega), ⟨_, _, nb, hO5, hP5, ?_⟩, rx_mid rfl HB1.out HX5⟩
      rw [PL_snoc, HN0.out]
      have enb : nb = decide (n0 = 0) := by rw [← hnb]; cases n0 <;> simp <;> omega
      rw [← enb]
      exact HQ5
    case done =>
      rintro D pre W hD ⟨k, rfl, hk1, hk2⟩ ⟨⟨v, d, bg, hO, hP, hQ⟩, hbx1⟩ hdef
      obtain ⟨k, rfl⟩ : ∃ k', k = k' + 1 := ⟨k - 1, by cases k <;> omega⟩
      have hlen : (PL s (cutSq un nx s) un xs sz (starts sz (k + 1))).length = k + 1 := by rw [PL_length, starts_length]
      obtain ⟨g, c, rfl, hc1, hc2, hgB, hgW⟩ := hQ.block (by omega)
      have hS := Lib.hid (hQ.setEnd k _ (PL_get s (cutSq un nx s) un xs sz (k + 1) k (by omega)))
      rw [hlen] at hO hc1
      have o0 := hO.cell 0
      simp at o0
      have HO := Lib.hid hO
      have hk4 : k < 4096 := by
        have h1 := hk2
        have h2 : k * 1 ≤ k * sz := Nat.mul_le_mul_left _ hsz
        rcases h1 with h1 | h1
        · cases h1
        · simp at h1; omega
      have hk4z : (k : Int) < 4096 := by omega
      have HK1 := Lib.hid hk1
      have HK2 := Lib.hid hk2
      clear hP hQ hO hk1 hk2 hlen
      obtain ⟨cur, hcur, hcl, hnx⟩ := hS.out
      have HNX := Lib.hid hnx
      have HCL := Lib.hid hcl
      clear hnx hcl
      go_wp2_with ((with_reducible refine wpl_storeC rfl 4 (.tmp 86) (.const (.bool true)) rfl rfl g (k * 7 + 4) 45 cur (cur.set! (k * 7 + 4) (.bool true)) (.bool true) ?_ ?_ hcur HCL.out (by kernel_rfl) ?_ ?_ ?_); rfl; rfl; rfl; rfl; go_must (intro W2 hat2 hg2; have hO2 := HO.out.kept' hg2 (fun e => at_ne HO.out hcur (by decide) (Option.some.inj e).symm); have o20 := hO2.cell 0; simp at o20; have HG2 := Lib.hid hg2; clear hg2))
      have hDne : D ≠ g := fun e => by
        have h2 : W.heap[g]? = some (.cells cur 45 (0, 0)) := hcur
        rw [← e, hdef] at h2
        cases h2
      have hDlt := (Array.getElem?_eq_some_iff.1 hdef).1
      have hdef2 : W2.heap[D]? = some (.deferred (some [])) := (HG2.out.block D hDlt (fun e => hDne (Option.some.inj e))).trans hdef
      have hg3 := grownBy_putObj' W2 D (.deferred none)
      have hDW2 := Nat.lt_of_lt_of_le hDlt HG2.out.size
      generalize hW3 : W2.putObj D (.deferred none) = W3 at hg3
      have hsW0 := hbW.size
      have hb3 : ButX (fun k => k = gC) w W3 := by
        have h1 := ButX.trans hbx0 (hbx1.mono (Y := more (fun k => k = gC) w W0) (fun k e => .inr (by rcases e with e | e <;> omega)))
        have h2 := ButX.trans h1 ((ButX.ofGrown HG2.out (fun k e => (Option.some.inj e).symm)).mono (Y := more (fun k => k = gC) w W) (fun k (e : k = g) => .inr (by omega)))
        exact ButX.trans h2 ((ButX.ofGrown hg3 (fun k e => (Option.some.inj e).symm)).mono (Y := more (fun k => k = gC) w W2) (fun k (e : k = D) => .inr (by omega)))
      have hatW0 : At W0 gC 66 (nxA (cutNx un nx s)) := by
        exact hatC.ext hbW
      have hltC0 := hatW0.lt
      have hatW : At W gC 66 (nxA (cutNx un nx s)) := by
        unfold At at hatW0 ⊢
        rw [hbx1.block gC hltC0 (fun e => by rcases e with e | e <;> omega)]
        exact hatW0
      refine ⟨by simp, .inl ⟨_, _, rfl, run_takeDeferred hdef2, ?_⟩⟩
      rw [hW3]
      refine ⟨_, results_tmp2 rfl _ _ _, _, rfl, k + 1, HK1.out, ?_, ?_, ?_, hb3⟩
      · rcases HK2.out with h | h
        · cases h
        · exact h
      · have hq := (HNX.out W2 hat2 HG2.out).from hg3 (fun q e => by cases e; exact ⟨_, hdef2, rfl⟩)
        have hq2 := hq.mono (B' := w.heap.size) (by omega)
        rw [PL_end, PL_length, starts_length] at hq2
        exact hq2
      · exact (hatW.kept' HG2.out (fun e => by have := Option.some.inj e; omega)).kept' hg3 (fun e => by have := Option.some.inj e; omega)
end Go.Proofs.Yteiiifonejkjbaa.Chunk
