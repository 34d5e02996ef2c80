/-
  Contract: the reference's Cutter.Cut (12).
-/
import Derived.Test.YteiiifonejkjbaaRcut0
namespace Go.Proofs.Yteiiifonejkjbaa.Chunk
open Go.RowKit Go.Shelf Mem Cells Ops Pcs
set_option linter.unusedVariables false
set_option linter.unusedSimpArgs false
attribute [local go_sem] Oper.semAt_some

def rcutE (L : Nat) (s z : Int) : Int := if L = 0 ∨ 8 ≤ s ∨ z < 1 ∨ 256 < z then 1 else if 4096 < L then 4 else 0

set_option maxRecDepth 100000 in
set_option maxHeartbeats 800000 in
theorem rbad_empty (w : World) (p : Option Addr) (s z : Int) (a : Option Addr) (L cap : Nat) (un : Bool) (hLm : L ≤ 9223372036854775807) (hs : 0 ≤ s ∧ s ≤ 65535) (hz : -9223372036854775808 ≤ z ∧ z ≤ 9223372036854775807) (h : L = 0) :
    Calls Try.prog 12 #[.pointer p, .agg #[.int .u16 s, .slice a L cap], .bool un, .int .i64 z] w (CutBad w 1) := by
  subst h
  go_enter Try.func12, Try.ntmps12
  go_wp2_with ((with_reducible refine wpl_boxAt rfl 32 (.tmp 1) rfl #[.int .u16 s, .slice a 0 cap] ?_ ?_); rfl; go_must (intro w1 hat1 hb1 hs1; have m0 := hat1.cell 0; have m1 := hat1.cell 1; simp at m0 m1; have HB := Lib.hid hb1; clear hb1))
  go_ret2
  exact ⟨rfl, HB.out⟩

set_option maxRecDepth 100000 in
set_option maxHeartbeats 800000 in
theorem rbad_stream (w : World) (p : Option Addr) (s z : Int) (a : Option Addr) (L cap : Nat) (un : Bool) (hLm : L ≤ 9223372036854775807) (hs : 0 ≤ s ∧ s ≤ 65535) (hz : -9223372036854775808 ≤ z ∧ z ≤ 9223372036854775807) (h0 : L ≠ 0) (h : 8 ≤ s) :
    Calls Try.prog 12 #[.pointer p, .agg #[.int .u16 s, .slice a L cap], .bool un, .int .i64 z] w (CutBad w 1) := by
  have l0 : ((L : Int) == 0) = false := by simp; omega
  have s8 : decide ((8 : Int) ≤ s) = true := decide_eq_true h
  go_enter Try.func12, Try.ntmps12
  go_wp2_with ((with_reducible refine wpl_boxAt rfl 32 (.tmp 1) rfl #[.int .u16 s, .slice a L cap] ?_ ?_); rfl; go_must (intro w1 hat1 hb1 hs1; have m0 := hat1.cell 0; have m1 := hat1.cell 1; simp at m0 m1; have HB := Lib.hid hb1; clear hb1))
  go_ret2
  exact ⟨rfl, HB.out⟩

set_option maxRecDepth 100000 in
set_option maxHeartbeats 800000 in
theorem rbad_small (w : World) (p : Option Addr) (s z : Int) (a : Option Addr) (L cap : Nat) (un : Bool) (hLm : L ≤ 9223372036854775807) (hs : 0 ≤ s ∧ s ≤ 65535) (hz : -9223372036854775808 ≤ z ∧ z ≤ 9223372036854775807) (h0 : L ≠ 0) (h1 : s < 8) (h : z < 1) :
    Calls Try.prog 12 #[.pointer p, .agg #[.int .u16 s, .slice a L cap], .bool un, .int .i64 z] w (CutBad w 1) := by
  have l0 : ((L : Int) == 0) = false := by simp; omega
  have s8z : ¬ (8 : Int) ≤ s := by omega
  have s8 : decide ((8 : Int) ≤ s) = false := decide_eq_false s8z
  have z1 : decide (z < 1) = true := decide_eq_true h
  go_enter Try.func12, Try.ntmps12
  go_wp2_with ((with_reducible refine wpl_boxAt rfl 32 (.tmp 1) rfl #[.int .u16 s, .slice a L cap] ?_ ?_); rfl; go_must (intro w1 hat1 hb1 hs1; have m0 := hat1.cell 0; have m1 := hat1.cell 1; simp at m0 m1; have HB := Lib.hid hb1; clear hb1))
  go_ret2
  exact ⟨rfl, HB.out⟩

set_option maxRecDepth 100000 in
set_option maxHeartbeats 800000 in
theorem rbad_big (w : World) (p : Option Addr) (s z : Int) (a : Option Addr) (L cap : Nat) (un : Bool) (hLm : L ≤ 9223372036854775807) (hs : 0 ≤ s ∧ s ≤ 65535) (hz : -9223372036854775808 ≤ z ∧ z ≤ 9223372036854775807) (h0 : L ≠ 0) (h1 : s < 8) (h2 : 1 ≤ z) (h : 256 < z) :
    Calls Try.prog 12 #[.pointer p, .agg #[.int .u16 s, .slice a L cap], .bool un, .int .i64 z] w (CutBad w 1) := by
  have l0 : ((L : Int) == 0) = false := by simp; omega
  have s8z : ¬ (8 : Int) ≤ s := by omega
  have s8 : decide ((8 : Int) ≤ s) = false := decide_eq_false s8z
  have z1z : ¬ z < 1 := by omega
  have z1 : decide (z < 1) = false := decide_eq_false z1z
  have z2 : decide ((256 : Int) < z) = true := decide_eq_true h
  go_enter Try.func12, Try.ntmps12
  go_wp2_with ((with_reducible refine wpl_boxAt rfl 32 (.tmp 1) rfl #[.int .u16 s, .slice a L cap] ?_ ?_); rfl; go_must (intro w1 hat1 hb1 hs1; have m0 := hat1.cell 0; have m1 := hat1.cell 1; simp at m0 m1; have HB := Lib.hid hb1; clear hb1))
  go_ret2
  exact ⟨rfl, HB.out⟩

set_option maxRecDepth 100000 in
set_option maxHeartbeats 800000 in
theorem rbad_large (w : World) (p : Option Addr) (s z : Int) (a : Option Addr) (L cap : Nat) (un : Bool) (hLm : L ≤ 9223372036854775807) (hs : 0 ≤ s ∧ s ≤ 65535) (hz : -9223372036854775808 ≤ z ∧ z ≤ 9223372036854775807) (h0 : L ≠ 0) (h1 : s < 8) (h2 : 1 ≤ z) (h3 : z ≤ 256) (h : 4096 < L) :
    Calls Try.prog 12 #[.pointer p, .agg #[.int .u16 s, .slice a L cap], .bool un, .int .i64 z] w (CutBad w 4) := by
  have l0 : ((L : Int) == 0) = false := by simp; omega
  have s8z : ¬ (8 : Int) ≤ s := by omega
  have s8 : decide ((8 : Int) ≤ s) = false := decide_eq_false s8z
  have z1z : ¬ z < 1 := by omega
  have z1 : decide (z < 1) = false := decide_eq_false z1z
  have z2z : ¬ (256 : Int) < z := by omega
  have z2 : decide ((256 : Int) < z) = false := decide_eq_false z2z
  have hz4 : (4096 : Int) < (L : Int) := by omega
  have lb : decide ((4096 : Int) < (L : Int)) = true := decide_eq_true hz4
  go_enter Try.func12, Try.ntmps12
  go_wp2_with ((with_reducible refine wpl_boxAt rfl 32 (.tmp 1) rfl #[.int .u16 s, .slice a L cap] ?_ ?_); rfl; go_must (intro w1 hat1 hb1 hs1; have m0 := hat1.cell 0; have m1 := hat1.cell 1; simp at m0 m1; have HB := Lib.hid hb1; clear hb1))
  go_ret2
  exact ⟨rfl, HB.out⟩

theorem rcut_bad (w : World) (p : Option Addr) (s z : Int) (a : Option Addr) (L cap : Nat) (un : Bool) (he : rcutE L s z ≠ 0) (hLm : L ≤ 9223372036854775807) (hs : 0 ≤ s ∧ s ≤ 65535) (hz : -9223372036854775808 ≤ z ∧ z ≤ 9223372036854775807) :
    Calls Try.prog 12 #[.pointer p, .agg #[.int .u16 s, .slice a L cap], .bool un, .int .i64 z] w (CutBad w (rcutE L s z)) := by
  by_cases h0 : L = 0
  · have e : rcutE L s z = 1 := by simp [rcutE, h0]
    rw [e]; exact rbad_empty w p s z a L cap un hLm hs hz h0
  by_cases h1 : 8 ≤ s
  · have e : rcutE L s z = 1 := by simp [rcutE, h1]
    rw [e]; exact rbad_stream w p s z a L cap un hLm hs hz h0 h1
  by_cases h2 : z < 1
  · have e : rcutE L s z = 1 := by simp [rcutE, h2]
    rw [e]; exact rbad_small w p s z a L cap un hLm hs hz h0 (by omega) h2
  by_cases h3 : 256 < z
  · have e : rcutE L s z = 1 := by simp [rcutE, h3]
    rw [e]; exact rbad_big w p s z a L cap un hLm hs hz h0 (by omega) (by omega) h3
  by_cases h4 : 4096 < L
  · have e : rcutE L s z = 4 := by simp [rcutE, h0, h1, h2, h3, h4]
    rw [e]; exact rbad_large w p s z a L cap un hLm hs hz h0 (by omega) (by omega) (by omega) h4
  · exact absurd (by simp [rcutE, h0, h1, h2, h3, h4]) he

/-- What the reference's Cut answers where it cuts. -/
def RCutIs (w : World) (gC : Nat) (nx : Nat → Int) (s L sz : Nat) (un : Bool) (xs : List Int) : Ending → World → Prop := fun e w' => ∃ g c k, e = .returned (.tuple #[.slice (some ⟨g, 0, none⟩) (k + 1) c, .int .i64 0]) ∧ L ≤ (k + 1) * sz ∧ k * sz < L ∧ k + 1 ≤ c ∧ c ≤ maxLen ∧
  OwnQ w.heap.size w' (.slice (some ⟨g, 0, none⟩) (k + 1) c) (PE s (cutSq un nx s) un xs sz (k + 1)) ∧ At w' gC 29 (nxA (cutNx un nx s)) ∧ ButX (fun k => k = gC) w w'

theorem u8_ne29 {w : World} {b off L cap gC : Nat} {xs : List Int} {nx : Nat → Int} (hr : Reads .u8 w (.slice (some ⟨b, off, none⟩) L cap) xs) (h0 : 0 < L) (hat : At w gC 29 (nxA nx)) : b ≠ gC := by
  intro e
  subst e
  obtain ⟨_, _, e, _, _, _, h4⟩ := hr
  cases e
  obtain ⟨b', off', e', hlt, hc⟩ := h4 h0
  cases e'
  have h1 := hc 0 h0
  rw [hat.cell] at h1
  have h2 : off + 0 < (nxA nx).size := (Array.getElem?_eq_some_iff.1 h1).1
  rw [nxA_get nx (off + 0) h2] at h1
  cases h1

set_option maxRecDepth 100000 in
set_option maxHeartbeats 9600000 in
theorem rcutOrd (w : World) (gC : Nat) (nx : Nat → Int) (hat : At w gC 29 (nxA nx)) (s : Nat) (hs : s < 8) (b off cap L sz : Nat) (xs : List Int) (un : Bool) (hr : Reads .u8 w (.slice (some ⟨b, off, none⟩) L cap) xs) (hL0 : 0 < L) (hL : L ≤ 4096) (hsz : 0 < sz) (hsz' : sz ≤ 256) (hn : 0 ≤ nx s ∧ nx s ≤ 65535) :
    Calls Try.prog 12 #[.pointer (some ⟨gC, 0, none⟩), .agg #[.int .u16 s, .slice (some ⟨b, off, none⟩) L cap], .bool un, .int .i64 sz] w (RCutIs w gC nx s L sz un xs) := by
  have l0 : ((L : Int) == 0) = false := by simp; omega
  have s8z : ¬ (8 : Int) ≤ (s : Int) := by omega
  have s8 : decide ((8 : Int) ≤ (s : Int)) = false := decide_eq_false s8z
  have z1z : ¬ (sz : Int) < 1 := by omega
  have z1 : decide ((sz : Int) < 1) = false := decide_eq_false z1z
  have z2z : ¬ (256 : Int) < (sz : Int) := by omega
  have z2 : decide ((256 : Int) < (sz : Int)) = false := decide_eq_false z2z
  have lz : ¬ (4096 : Int) < (L : Int) := by omega
  have lb : decide ((4096 : Int) < (L : Int)) = false := decide_eq_false lz
  obtain ⟨W0, hW0⟩ : ∃ W0, w = W0 := ⟨w, rfl⟩
  have HLX := Lib.hid (show xs.length = L by obtain ⟨_, _, e, _⟩ := hr; cases e; rfl)
  have HCP := Lib.hid (show L ≤ cap ∧ cap ≤ maxLen by obtain ⟨_, _, e, h1, h2, _⟩ := hr; cases e; exact ⟨h1, h2⟩)
  have HR := Lib.hid hr
  have HBG := Lib.hid (u8_ne29 hr hL0 hat)
  have HLT := Lib.hid hat.lt
  have HAT := Lib.hid hat
  have HN := Lib.hid hn
  have H0 := Lib.hid hL0
  clear hr hat hn hL0
  subst hW0
  go_enter Try.func12, Try.ntmps12
  go_upto_if 36 with (first
    | ((with_reducible refine wpl_boxAt rfl 32 (.tmp 1) rfl #[.int .u16 s, .slice (some ⟨b, off, none⟩) L cap] ?_ ?_); rfl; go_must (intro w1 hat1 hb1 hs1; have m0 := hat1.cell 0; have m1 := hat1.cell 1; simp at m0 m1; have HATC := Lib.hid (HAT.out.ext hb1); have HB1 := Lib.hid hb1; have HS1 := Lib.hid hs1; clear hb1 hs1)))
  have hu1 := ButX.ofBelow (X := fun k => k = gC) HB1.out
  have hatC1 := HATC.out
  go_cut [10] from 37 to 51 (fun u wx => u = .int .u16 (cutSq un nx s) ∧ At wx gC 29 (nxA (cutNx un nx s)) ∧ At wx w.heap.size 32 #[.int .u16 s, .slice (some ⟨b, off, none⟩) L cap] ∧ ButX (fun k => k = gC) w wx ∧ w.heap.size + 1 ≤ wx.heap.size)
  case first =>
    have hn := HN.out
    have hltC := HLT.out
    have hs1 := HS1.out
    cases un with
    | true =>
      go_wp2_with fail
      go_meet
      exact ⟨rfl, hatC1, hat1, hu1, by omega⟩
    | false =>
      go_upto_region 7 with fail
      have s8c : (s : Int) < 8 := by omega
      have s8d : ¬ (s : Int) < 0 := by omega
      have s8e : (0 : Int) ≤ (s : Int) := by omega
      have p2 := hatC1.cell s
      rw [nxA_get nx s hs] at p2
      go_still_tail 7, (by kernel_rfl)
      change wpList _ _ _ _ _ w1.drew
      have hbd : Below w1.heap.size w1 w1.drew := (Below.refl _ _).drew
      have hatC2 := hatC1.drew
      have hat2 := hat1.drew
      have hu2 := hu1.trans (ButX.ofBelow hbd)
      have hs2 := hbd.size
      generalize w1.drew = w2 at hatC2 hat2 hu2 hs2
      clear hbd p2 hatC1 hat1 hu1 m0 m1
      go_upto_region 8 with fail
      have m0 := hat2.cell 0
      simp at m0
      go_still_tail 8, (by kernel_rfl)
      change wpList _ _ _ _ _ w2.drew
      have hbd : Below w2.heap.size w2 w2.drew := (Below.refl _ _).drew
      have hatC3 := hatC2.drew
      have hat3 := hat2.drew
      have hu3 := hu2.trans (ButX.ofBelow hbd)
      have hs3 := hbd.size
      generalize w2.drew = w3 at hatC3 hat3 hu3 hs3
      clear hbd m0 hatC2 hat2 hu2
      go_upto_region 9 with ((with_reducible refine wpl_storeC rfl 26 (.tmp 51) (.tmp 48) rfl rfl gC s 29 (nxA nx) (nxA (upd nx s (IntKind.u16.wrap (nx s + 1)))) (.int .u16 (IntKind.u16.wrap (nx s + 1))) ?_ ?_ hatC3 ?_ (by kernel_rfl) ?_ ?_ ?_); rfl; rfl; exact (show s < 8 from hs); rfl; exact nxA_set nx s hs _; go_must (intro w7 hatC7 hg7; have hat7 := hat3.grown hg7 (by have := HLT.out; omega); have hu7 : ButX (fun k => k = gC) w w7 := hu3.trans ((ButX.ofGrown hg7 (fun k e => (Option.some.inj e).symm)).mono more_self); have hs7 := hg7.size; clear hu3 hg7 hatC3 hat3))
      go_wp2_with fail
      go_meet
      exact ⟨rfl, hatC7, hat7, hu7, by omega⟩
  case rest =>
    clear hatC1 hat1 hu1 m0 m1
    obtain ⟨rfl, hatC, hatm, hbx, hszc⟩ := hcut
    have HC0 := Lib.hid hatC
    have HM0 := Lib.hid hatm
    have HBX := Lib.hid hbx
    have m1 := hatm.cell 1
    simp at m1
    clear hatC hatm hbx
    go_upto_region 11 with fail
    go_loopw [11, 12] (fun v i wr => ∃ j X : Nat, Hid (X = j * sz ∧ (j = 0 ∨ (j - 1) * sz < L)) ∧ i = .int .i64 (X : Int) ∧ Hid (OwnQ w.heap.size wr v (PR s (cutSq un nx s) un xs sz j)) ∧ Hid (At wr gC 29 (nxA (cutNx un nx s))) ∧ Hid (At wr w.heap.size 32 #[.int .u16 s, .slice (some ⟨b, off, none⟩) L cap]) ∧ Hid (ButX (fun k => k = gC) w wr) ∧ Hid (w.heap.size + 1 ≤ wr.heap.size)) (fun _ i _ => L - (intOf i).toNat)
    case atStart => exact ⟨0, 0, ⟨by simp, .inl rfl⟩, rfl, OwnQ.nil _ _, HC0.out, HM0.out, HBX.out, hszc⟩
    case round =>
      clear m1 HC0 HM0 HBX hszc
      obtain ⟨j, X, hjX, rfl, HQ, HATC2, HATM, HBX, HSZ⟩ := hrel
      have m1 := HATM.out.cell 1
      simp at m1
      by_cases hlt : X < L
      · have hltz : (X : Int) < (L : Int) := by exact_mod_cast hlt
        have hltb : decide ((X : Int) < (L : Int)) = true := decide_eq_true hltz
        have hjb : j < 4096 := by
          have h1 := hjX.1
          have h2 : j * 1 ≤ j * sz := Nat.mul_le_mul_left _ hsz
          omega
        obtain ⟨be, hbe⟩ : ∃ be, decide (j = 0) = be := ⟨_, rfl⟩
        have be1 : ((X : Int) == 0) = be := by
          rw [← hbe, Bool.eq_iff_iff]
          have h1 := hjX.1
          simp
          constructor
          · intro h; rw [h] at h1; rcases Nat.mul_eq_zero.1 h1.symm with h | h <;> omega
          · intro h; rw [h] at h1; simpa using h1
        obtain ⟨pv, cv, hv, hv1, hv2⟩ := HQ.out.shape
        rw [PR_length] at hv hv1
        subst hv
        have HWS : Hid (w.heap.size ≤ wr.heap.size) := by have := HSZ.out; show _ ≤ _; omega
        have HRW : Hid (Reads .u8 wr (.slice (some ⟨b, off, none⟩) L cap) xs) := reads_but HR.out HBX.out (fun e => HBG.out e)
        have HBE := Lib.hid hbe
        by_cases hgt : L < X + sz
        · have hgz : (L : Int) < (X : Int) + (sz : Int) := by omega
          have hgb : decide ((L : Int) < (X : Int) + (sz : Int)) = true := decide_eq_true hgz
          have HEQ : Hid ((xs.drop ((X : Int)).toNat).take ((L : Int) - (X : Int)).toNat = (xs.drop X).take sz) := by
            show _ = _
            have h1 := HLX.out
            rw [show ((X : Int)).toNat = X by omega, List.take_of_length_le (by rw [List.length_drop]; omega), List.take_of_length_le (by rw [List.length_drop]; omega)]
          have HEN : Hid (true = decide (xs.length ≤ (j + 1) * sz)) := by
            show _ = _
            symm
            apply decide_eq_true
            rw [HLX.out, Nat.add_mul, ← hjX.1]; omega
          have hlx : (L : Int) ≤ (xs.length : Int) := by rw [HLX.out]; omega
          clear hbe
          go_upto_region 16 with fail
          refine Mono.wp_region_monoT 21 [some 71, some 72, some 73, some 74, some 75, some 76, some 77, some 78, some 79, some 80, some 81, some 82, some 83, some 84, some 85, some 86, some 87, some 88, some 89, some 90, some 91] [Mono.isV (.slice pv j cv), Mono.isV (.pointer (some ⟨w.heap.size, 0, none⟩)), Mono.isV (.int .u16 s), Mono.isV (.int .u16 (cutSq un nx s)), Mono.isV (.bool un), Mono.isV (.int .i64 X), Mono.isV (.bool be), Mono.isV (.int .i64 L), Mono.isV (.pointer (some ⟨w.heap.size, 1, none⟩)), Mono.isV (.slice (some ⟨b, off, none⟩) L cap), Mono.isV (.int .i64 L), Mono.isV (.bool true), freshP w.heap.size, Mono.isV (.pointer (some ⟨w.heap.size, 1, none⟩)), Mono.isV (.slice (some ⟨b, off, none⟩) L cap), Mono.isV (.int .i64 X), Mono.isV (.int .i64 L), readsP .u8 ((xs.drop X).take sz), ownRowP w.heap.size ((xs.drop X).take sz), pieceP w.heap.size ⟨0, s, cutSq un nx s, be, true, un, (xs.drop X).take sz⟩, oneP w.heap.size ⟨0, s, cutSq un nx s, be, true, un, (xs.drop X).take sz⟩] (by kernel_rfl) (by kernel_rfl) ?_ ?_
          · simp only [Mono.OpGoals, List.take_succ_cons, List.take_zero, and_true]
            refine ⟨?_, ?_, ?_, ?_, ?_, ?_, ?_, ?_, ?_, ?_, ?_, ?_, ?_, ?_, ?_, ?_, ?_, ?_, ?_, ?_, ?_⟩
            · intro a u hbu hsu hdu
              have HM := HATM.out.ext hbu; have c0 := HM.cell 0; have c1 := HM.cell 1; simp at c0 c1; have HRX := HRW.out.below hbu
              refine Mono.if_want rfl ?_
              exact Mono.ok_move (.tmp 11) rfl (hsu 11 (by decide))
            · intro a u hbu hsu hdu
              have HM := HATM.out.ext hbu; have c0 := HM.cell 0; have c1 := HM.cell 1; simp at c0 c1; have HRX := HRW.out.below hbu
              refine Mono.if_want rfl ?_
              have z5 : a.eval (.tmp 5) = .pointer (some ⟨w.heap.size, 0, none⟩) := hsu 5 (by decide)
              simp [Act.eval] at z5
              exact Mono.ok_val (.pointer (some ⟨w.heap.size, 0, none⟩)) (by simp [execOp, z5, go_sem, c0, c1, be1]) rfl
            · intro a u hbu hsu hdu
              have HM := HATM.out.ext hbu; have c0 := HM.cell 0; have c1 := HM.cell 1; simp at c0 c1; have HRX := HRW.out.below hbu
              refine Mono.if_want rfl ?_
              have z72 : a.eval (.tmp 72) = .pointer (some ⟨w.heap.size, 0, none⟩) := Mono.dep_at hdu (i := 1) (d := 72) rfl rfl rfl
              simp [Act.eval] at z72
              exact Mono.ok_val (.int .u16 s) (by simp [execOp, z72, go_sem, c0, c1, be1]) rfl
            · intro a u hbu hsu hdu
              have HM := HATM.out.ext hbu; have c0 := HM.cell 0; have c1 := HM.cell 1; simp at c0 c1; have HRX := HRW.out.below hbu
              refine Mono.if_want rfl ?_
              exact Mono.ok_move (.tmp 10) rfl (hsu 10 (by decide))
            · intro a u hbu hsu hdu
              have HM := HATM.out.ext hbu; have c0 := HM.cell 0; have c1 := HM.cell 1; simp at c0 c1; have HRX := HRW.out.below hbu
              refine Mono.if_want rfl ?_
              exact Mono.ok_move (.tmp 2) rfl (hsu 2 (by decide))
            · intro a u hbu hsu hdu
              have HM := HATM.out.ext hbu; have c0 := HM.cell 0; have c1 := HM.cell 1; simp at c0 c1; have HRX := HRW.out.below hbu
              refine Mono.if_want rfl ?_
              exact Mono.ok_move (.tmp 12) rfl (hsu 12 (by decide))
            · intro a u hbu hsu hdu
              have HM := HATM.out.ext hbu; have c0 := HM.cell 0; have c1 := HM.cell 1; simp at c0 c1; have HRX := HRW.out.below hbu
              refine Mono.if_want rfl ?_
              have z76 : a.eval (.tmp 76) = .int .i64 X := Mono.dep_at hdu (i := 5) (d := 76) rfl rfl rfl
              simp [Act.eval] at z76
              exact Mono.ok_val (.bool be) (by simp [execOp, z76, go_sem, c0, c1, be1]) rfl
            · intro a u hbu hsu hdu
              have HM := HATM.out.ext hbu; have c0 := HM.cell 0; have c1 := HM.cell 1; simp at c0 c1; have HRX := HRW.out.below hbu
              refine Mono.if_want rfl ?_
              exact Mono.ok_move (.tmp 13) rfl (hsu 13 (by decide))
            · intro a u hbu hsu hdu
              have HM := HATM.out.ext hbu; have c0 := HM.cell 0; have c1 := HM.cell 1; simp at c0 c1; have HRX := HRW.out.below hbu
              refine Mono.if_want rfl ?_
              have z5 : a.eval (.tmp 5) = .pointer (some ⟨w.heap.size, 0, none⟩) := hsu 5 (by decide)
              simp [Act.eval] at z5
              exact Mono.ok_val (.pointer (some ⟨w.heap.size, 1, none⟩)) (by simp [execOp, z5, go_sem, c0, c1, be1]) rfl
            · intro a u hbu hsu hdu
              have HM := HATM.out.ext hbu; have c0 := HM.cell 0; have c1 := HM.cell 1; simp at c0 c1; have HRX := HRW.out.below hbu
              refine Mono.if_want rfl ?_
              have z79 : a.eval (.tmp 79) = .pointer (some ⟨w.heap.size, 1, none⟩) := Mono.dep_at hdu (i := 8) (d := 79) rfl rfl rfl
              simp [Act.eval] at z79
              exact Mono.ok_val (.slice (some ⟨b, off, none⟩) L cap) (by simp [execOp, z79, go_sem, c0, c1, be1]) rfl
            · intro a u hbu hsu hdu
              have HM := HATM.out.ext hbu; have c0 := HM.cell 0; have c1 := HM.cell 1; simp at c0 c1; have HRX := HRW.out.below hbu
              refine Mono.if_want rfl ?_
              have z80 : a.eval (.tmp 80) = .slice (some ⟨b, off, none⟩) L cap := Mono.dep_at hdu (i := 9) (d := 80) rfl rfl rfl
              simp [Act.eval] at z80
              exact Mono.ok_val (.int .i64 L) (by simp [execOp, z80, go_sem, c0, c1, be1]) rfl
            · intro a u hbu hsu hdu
              have HM := HATM.out.ext hbu; have c0 := HM.cell 0; have c1 := HM.cell 1; simp at c0 c1; have HRX := HRW.out.below hbu
              refine Mono.if_want rfl ?_
              have z78 : a.eval (.tmp 78) = .int .i64 L := Mono.dep_at hdu (i := 7) (d := 78) rfl rfl rfl
              simp [Act.eval] at z78
              have z81 : a.eval (.tmp 81) = .int .i64 L := Mono.dep_at hdu (i := 10) (d := 81) rfl rfl rfl
              simp [Act.eval] at z81
              exact Mono.ok_val (.bool true) (by simp [execOp, z78, z81, go_sem, c0, c1, be1]) rfl
            · intro a u hbu hsu hdu
              have HM := HATM.out.ext hbu; have c0 := HM.cell 0; have c1 := HM.cell 1; simp at c0 c1; have HRX := HRW.out.below hbu
              refine Mono.if_want rfl ?_
              exact Mono.ok_valW (.slice (some ⟨u.heap.size, 0, none⟩) 0 0) (u.alloc (.cells #[] 5)) (by simp [execOp, Sem.run_bind, nil30, Result.andThen_ok, go_sem]) ((Below.refl _ _).alloc (Nat.le_refl _) _) ⟨_, rfl, At.new _ _ _, Nat.le_trans HWS.out hbu.size⟩
            · intro a u hbu hsu hdu
              have HM := HATM.out.ext hbu; have c0 := HM.cell 0; have c1 := HM.cell 1; simp at c0 c1; have HRX := HRW.out.below hbu
              refine Mono.if_want rfl ?_
              have z5 : a.eval (.tmp 5) = .pointer (some ⟨w.heap.size, 0, none⟩) := hsu 5 (by decide)
              simp [Act.eval] at z5
              exact Mono.ok_val (.pointer (some ⟨w.heap.size, 1, none⟩)) (by simp [execOp, z5, go_sem, c0, c1, be1]) rfl
            · intro a u hbu hsu hdu
              have HM := HATM.out.ext hbu; have c0 := HM.cell 0; have c1 := HM.cell 1; simp at c0 c1; have HRX := HRW.out.below hbu
              refine Mono.if_want rfl ?_
              have z84 : a.eval (.tmp 84) = .pointer (some ⟨w.heap.size, 1, none⟩) := Mono.dep_at hdu (i := 13) (d := 84) rfl rfl rfl
              simp [Act.eval] at z84
              exact Mono.ok_val (.slice (some ⟨b, off, none⟩) L cap) (by simp [execOp, z84, go_sem, c0, c1, be1]) rfl
            · intro a u hbu hsu hdu
              have HM := HATM.out.ext hbu; have c0 := HM.cell 0; have c1 := HM.cell 1; simp at c0 c1; have HRX := HRW.out.below hbu
              refine Mono.if_want rfl ?_
              exact Mono.ok_move (.tmp 12) rfl (hsu 12 (by decide))
            · intro a u hbu hsu hdu
              have HM := HATM.out.ext hbu; have c0 := HM.cell 0; have c1 := HM.cell 1; simp at c0 c1; have HRX := HRW.out.below hbu
              refine Mono.if_want rfl ?_
              exact Mono.ok_move (.tmp 13) rfl (hsu 13 (by decide))
            · intro a u hbu hsu hdu
              have HM := HATM.out.ext hbu; have c0 := HM.cell 0; have c1 := HM.cell 1; simp at c0 c1; have HRX := HRW.out.below hbu
              refine Mono.if_want rfl ?_
              have z86 : a.eval (.tmp 86) = .int .i64 X := Mono.dep_at hdu (i := 15) (d := 86) rfl rfl rfl
              have z87 : a.eval (.tmp 87) = .int .i64 L := Mono.dep_at hdu (i := 16) (d := 87) rfl rfl rfl
              have z85 : a.eval (.tmp 85) = .slice (some ⟨b, off, none⟩) L cap := Mono.dep_at hdu (i := 14) (d := 85) rfl rfl rfl
              obtain ⟨i0, hi, hz0, hz1, hz2⟩ := info_parts info5
              exact Mono.ok_sub 30 (.tmp 85) (.tmp 86) (.tmp 87) rfl _ i0 Try.underlying30 hi hz1 _ _ _ _ _ z85 z86 z87 (HRX) (by omega) (by omega) (by omega) (HEQ.out) (fun _ h => h)
            · intro a u hbu hsu hdu
              have HM := HATM.out.ext hbu; have c0 := HM.cell 0; have c1 := HM.cell 1; simp at c0 c1; have HRX := HRW.out.below hbu
              refine Mono.if_want rfl ?_
              obtain ⟨g0, e0, hat0, hB0⟩ : (freshP w.heap.size).R (a.eval (.tmp 83)) u := Mono.dep_at hdu (i := 12) (d := 83) rfl rfl rfl
              have h88 : Mem.Reads .u8 u (a.eval (.tmp 88)) ((xs.drop X).take sz) := Mono.dep_at hdu (i := 17) (d := 88) rfl rfl rfl
              obtain ⟨i0, hi, hz0, hz1, hz2⟩ := info_parts info5
              exact wp_append_fresh (.tmp 83) (.tmp 88) 30 rfl .u8 w.heap.size 5 1 g0 i0 (.int .u8 0) Try.underlying30 hi hz0 hz1 hz2 rfl _ _ e0 rfl hat0 h88 hB0 (by rw [List.length_take]; simp [maxLen]; omega) (by rw [List.length_take]; omega) (fun v' w' h1 h2 _ => ⟨v', rfl, h2, h1⟩)
            · intro a u hbu hsu hdu
              have HM := HATM.out.ext hbu; have c0 := HM.cell 0; have c1 := HM.cell 1; simp at c0 c1; have HRX := HRW.out.below hbu
              refine Mono.if_want rfl ?_
              have z73 : a.eval (.tmp 73) = .int .u16 s := Mono.dep_at hdu (i := 2) (d := 73) rfl rfl rfl
              have z74 : a.eval (.tmp 74) = .int .u16 (cutSq un nx s) := Mono.dep_at hdu (i := 3) (d := 74) rfl rfl rfl
              have z75 : a.eval (.tmp 75) = .bool un := Mono.dep_at hdu (i := 4) (d := 75) rfl rfl rfl
              have z77 : a.eval (.tmp 77) = .bool be := Mono.dep_at hdu (i := 6) (d := 77) rfl rfl rfl
              have z82 : a.eval (.tmp 82) = .bool true := Mono.dep_at hdu (i := 11) (d := 82) rfl rfl rfl
              have h89 : Row .u8 5 w.heap.size u (a.eval (.tmp 89)) ((xs.drop X).take sz) := Mono.dep_at hdu (i := 18) (d := 89) rfl rfl rfl
              obtain ⟨d89, z89⟩ : ∃ d, a.eval (.tmp 89) = d := ⟨_, rfl⟩
              rw [z89] at h89
              obtain ⟨p89, c89, rfl, _⟩ := id h89.reads
              simp [Act.eval] at z73 z74 z75 z77 z82 z89
              exact Mono.ok_build 45 _ rfl #[(1, .int .u16 s), (2, .int .u16 (cutSq un nx s)), (5, .bool un), (3, .bool be), (4, .bool true), (6, .slice p89 ((xs.drop X).take sz).length c89)] (by simp [z73, z74, z75, z77, z82, z89, Act.eval]) (.agg (row ⟨0, s, cutSq un nx s, be, true, un, (xs.drop X).take sz⟩ (.slice p89 ((xs.drop X).take sz).length c89)).toArray) (by kernel_rfl) ⟨_, rfl, h89⟩
            · intro a u hbu hsu hdu
              have HM := HATM.out.ext hbu; have c0 := HM.cell 0; have c1 := HM.cell 1; simp at c0 c1; have HRX := HRW.out.below hbu
              refine Mono.if_want rfl ?_
              obtain ⟨d90, e90, h90⟩ : (pieceP w.heap.size ⟨0, s, cutSq un nx s, be, true, un, (xs.drop X).take sz⟩).R (a.eval (.tmp 90)) u := Mono.dep_at hdu (i := 19) (d := 90) rfl rfl rfl
              simp [Act.eval] at e90
              exact Mono.ok_valW (.slice (some ⟨u.heap.size, 0, none⟩) 1 1) (u.alloc (.cells (row ⟨0, s, cutSq un nx s, be, true, un, (xs.drop X).take sz⟩ d90).toArray 45)) (by simp [execOp, Sem.run_bind, Act.eval, e90, build35, Result.andThen_ok]) ((Below.refl _ _).alloc (Nat.le_refl _) _) ⟨_, _, rfl, At.new _ _ _, Row.below h90 ((Below.refl _ _).alloc (Nat.le_refl _) _)⟩
          intro u hu
          simp only [Mono.Fin]
          rintro _ rfl _ rfl _ rfl _ rfl _ rfl _ rfl _ rfl _ rfl _ rfl _ rfl _ rfl _ rfl v83 h83 _ rfl _ rfl _ rfl _ rfl v88 h88 v89 h89 v90 h90 v91 h91
          obtain ⟨g91, d91, rfl, hat91, hrow91⟩ := h91
          have hqu := HQ.out.below hu
          obtain ⟨v92, w92, hrun, hq92, hg92⟩ := run_append1 (m := 1) hqu ⟨0, s, cutSq un nx s, be, true, un, (xs.drop X).take sz⟩ d91 hat91 hrow91 (by have := HSZ.out; have := hu.size; omega) (by rw [PR_length]; omega)
          have hlt91 := hqu.ownD.ownL.lt
          have hg := grown_trans (grown_below _ hu) hg92
          have HB92 : Hid (ButX (fun k => k = gC) w w92) := ButX.trans HBX.out ((ButX.ofGrown hg (fun k e => e)).mono (fun k e => .inr ⟨(hlt91 k e).1, by have := HQ.out.ownD.ownL.lt k e; omega⟩))
          have HAC92 : Hid (At w92 gC 29 (nxA (cutNx un nx s))) := HATC2.out.kept' hg (fun e => by have := (hlt91 _ e).1; have := HLT.out; omega)
          have HAM92 : Hid (At w92 w.heap.size 32 #[.int .u16 s, .slice (some ⟨b, off, none⟩) L cap]) := HATM.out.kept' hg (own_at_ne HQ.out HATM.out (by decide))
          have HS92 : Hid (w.heap.size + 1 ≤ w92.heap.size) := Nat.le_trans HSZ.out hg.size
          have HQ92 : Hid (OwnQ w.heap.size w92 v92 (PR s (cutSq un nx s) un xs sz (j + 1))) := by
            show OwnQ _ _ _ _
            rw [PR_succ, HBE.out, ← HEN.out, ← hjX.1]
            exact hq92
          simp only [List.drop_succ_cons, List.drop_zero]
          have HRUN := Lib.hid hrun
          clear hg hg92 hq92 hqu hrun hlt91 hat91 hrow91 h83 h88 h89 h90
          simp [Act.put]
          go_wp2_with ((with_reducible refine wpl_appendV rfl 35 (.tmp 71) (.tmp 91) rfl (.slice pv j cv) (.slice (some ⟨g91, 0, none⟩) 1 1) v92 w92 ?_ ?_ HRUN.out ?_); rfl; rfl)
          go_roundw
          case rel => exact ⟨j + 1, X + sz, ⟨by rw [hjX.1, Nat.add_mul]; omega, .inr (by have := hjX.1; simp; omega)⟩, by go_num, HQ92.out, HAC92.out, HAM92.out, HB92.out, HS92.out⟩
          case measure => simp [intOf]; omega
        · have hgz : ¬ (L : Int) < (X : Int) + (sz : Int) := by omega
          have hgb : decide ((L : Int) < (X : Int) + (sz : Int)) = false := decide_eq_false hgz
          obtain ⟨en, hen⟩ : ∃ en, decide (L = X + sz) = en := ⟨_, rfl⟩
          have en1 : ((X : Int) + (sz : Int) == (L : Int)) = en := by rw [← hen, Bool.eq_iff_iff]; simp; omega
          have HEQ : Hid ((xs.drop ((X : Int)).toNat).take ((X : Int) + (sz : Int) - (X : Int)).toNat = (xs.drop X).take sz) := by
            show _ = _
            rw [show ((X : Int)).toNat = X by omega, show ((X : Int) + (sz : Int) - (X : Int)).toNat = sz by omega]
          have HEN : Hid (en = decide (xs.length ≤ (j + 1) * sz)) := by
            show _ = _
            rw [← hen, HLX.out, Nat.add_mul, ← hjX.1, decide_eq_decide]; omega
          have hlx : (X : Int) + (sz : Int) ≤ (xs.length : Int) := by rw [HLX.out]; omega
          clear hbe hen
          go_upto_region 16 with fail
          refine Mono.wp_region_monoT 21 [some 71, some 72, some 73, some 74, some 75, some 76, some 77, some 78, some 79, some 80, some 81, some 82, some 83, some 84, some 85, some 86, some 87, some 88, some 89, some 90, some 91] [Mono.isV (.slice pv j cv), Mono.isV (.pointer (some ⟨w.heap.size, 0, none⟩)), Mono.isV (.int .u16 s), Mono.isV (.int .u16 (cutSq un nx s)), Mono.isV (.bool un), Mono.isV (.int .i64 X), Mono.isV (.bool be), Mono.isV (.int .i64 ((X : Int) + (sz : Int))), Mono.isV (.pointer (some ⟨w.heap.size, 1, none⟩)), Mono.isV (.slice (some ⟨b, off, none⟩) L cap), Mono.isV (.int .i64 L), Mono.isV (.bool en), freshP w.heap.size, Mono.isV (.pointer (some ⟨w.heap.size, 1, none⟩)), Mono.isV (.slice (some ⟨b, off, none⟩) L cap), Mono.isV (.int .i64 X), Mono.isV (.int .i64 ((X : Int) + (sz : Int))), readsP .u8 ((xs.drop X).take sz), ownRowP w.heap.size ((xs.drop X).take sz), pieceP w.heap.size ⟨0, s, cutSq un nx s, be, en, un, (xs.drop X).take sz⟩, oneP w.heap.size ⟨0, s, cutSq un nx s, be, en, un, (xs.drop X).take sz⟩] (by kernel_rfl) (by kernel_rfl) ?_ ?_
          · simp only [Mono.OpGoals, List.take_succ_cons, List.take_zero, and_true]
            refine ⟨?_, ?_, ?_, ?_, ?_, ?_, ?_, ?_, ?_, ?_, ?_, ?_, ?_, ?_, ?_, ?_, ?_, ?_, ?_, ?_, ?_⟩
            · intro a u hbu hsu hdu
              have HM := HATM.out.ext hbu; have c0 := HM.cell 0; have c1 := HM.cell 1; simp at c0 c1; have HRX := HRW.out.below hbu
              refine Mono.if_want rfl ?_
              exact Mono.ok_move (.tmp 11) rfl (hsu 11 (by decide))
            · intro a u hbu hsu hdu
              have HM := HATM.out.ext hbu; have c0 := HM.cell 0; have c1 := HM.cell 1; simp at c0 c1; have HRX := HRW.out.below hbu
              refine Mono.if_want rfl ?_
              have z5 : a.eval (.tmp 5) = .pointer (some ⟨w.heap.size, 0, none⟩) := hsu 5 (by decide)
              simp [Act.eval] at z5
              exact Mono.ok_val (.pointer (some ⟨w.heap.size, 0, none⟩)) (by simp [execOp, z5, go_sem, c0, c1, be1, en1]) rfl
            · intro a u hbu hsu hdu
              have HM := HATM.out.ext hbu; have c0 := HM.cell 0; have c1 := HM.cell 1; simp at c0 c1; have HRX := HRW.out.below hbu
              refine Mono.if_want rfl ?_
              have z72 : a.eval (.tmp 72) = .pointer (some ⟨w.heap.size, 0, none⟩) := Mono.dep_at hdu (i := 1) (d := 72) rfl rfl rfl
              simp [Act.eval] at z72
              exact Mono.ok_val (.int .u16 s) (by simp [execOp, z72, go_sem, c0, c1, be1, en1]) rfl
            · intro a u hbu hsu hdu
              have HM := HATM.out.ext hbu; have c0 := HM.cell 0; have c1 := HM.cell 1; simp at c0 c1; have HRX := HRW.out.below hbu
              refine Mono.if_want rfl ?_
              exact Mono.ok_move (.tmp 10) rfl (hsu 10 (by decide))
            · intro a u hbu hsu hdu
              have HM := HATM.out.ext hbu; have c0 := HM.cell 0; have c1 := HM.cell 1; simp at c0 c1; have HRX := HRW.out.below hbu
              refine Mono.if_want rfl ?_
              exact Mono.ok_move (.tmp 2) rfl (hsu 2 (by decide))
            · intro a u hbu hsu hdu
              have HM := HATM.out.ext hbu; have c0 := HM.cell 0; have c1 := HM.cell 1; simp at c0 c1; have HRX := HRW.out.below hbu
              refine Mono.if_want rfl ?_
              exact Mono.ok_move (.tmp 12) rfl (hsu 12 (by decide))
            · intro a u hbu hsu hdu
              have HM := HATM.out.ext hbu; have c0 := HM.cell 0; have c1 := HM.cell 1; simp at c0 c1; have HRX := HRW.out.below hbu
              refine Mono.if_want rfl ?_
              have z76 : a.eval (.tmp 76) = .int .i64 X := Mono.dep_at hdu (i := 5) (d := 76) rfl rfl rfl
              simp [Act.eval] at z76
              exact Mono.ok_val (.bool be) (by simp [execOp, z76, go_sem, c0, c1, be1, en1]) rfl
            · intro a u hbu hsu hdu
              have HM := HATM.out.ext hbu; have c0 := HM.cell 0; have c1 := HM.cell 1; simp at c0 c1; have HRX := HRW.out.below hbu
              refine Mono.if_want rfl ?_
              exact Mono.ok_move (.tmp 13) rfl (hsu 13 (by decide))
            · intro a u hbu hsu hdu
              have HM := HATM.out.ext hbu; have c0 := HM.cell 0; have c1 := HM.cell 1; simp at c0 c1; have HRX := HRW.out.below hbu
              refine Mono.if_want rfl ?_
              have z5 : a.eval (.tmp 5) = .pointer (some ⟨w.heap.size, 0, none⟩) := hsu 5 (by decide)
              simp [Act.eval] at z5
              exact Mono.ok_val (.pointer (some ⟨w.heap.size, 1, none⟩)) (by simp [execOp, z5, go_sem, c0, c1, be1, en1]) rfl
            · intro a u hbu hsu hdu
              have HM := HATM.out.ext hbu; have c0 := HM.cell 0; have c1 := HM.cell 1; simp at c0 c1; have HRX := HRW.out.below hbu
              refine Mono.if_want rfl ?_
              have z79 : a.eval (.tmp 79) = .pointer (some ⟨w.heap.size, 1, none⟩) := Mono.dep_at hdu (i := 8) (d := 79) rfl rfl rfl
              simp [Act.eval] at z79
              exact Mono.ok_val (.slice (some ⟨b, off, none⟩) L cap) (by simp [execOp, z79, go_sem, c0, c1, be1, en1]) rfl
            · intro a u hbu hsu hdu
              have HM := HATM.out.ext hbu; have c0 := HM.cell 0; have c1 := HM.cell 1; simp at c0 c1; have HRX := HRW.out.below hbu
              refine Mono.if_want rfl ?_
              have z80 : a.eval (.tmp 80) = .slice (some ⟨b, off, none⟩) L cap := Mono.dep_at hdu (i := 9) (d := 80) rfl rfl rfl
              simp [Act.eval] at z80
              exact Mono.ok_val (.int .i64 L) (by simp [execOp, z80, go_sem, c0, c1, be1, en1]) rfl
            · intro a u hbu hsu hdu
              have HM := HATM.out.ext hbu; have c0 := HM.cell 0; have c1 := HM.cell 1; simp at c0 c1; have HRX := HRW.out.below hbu
              refine Mono.if_want rfl ?_
              have z78 : a.eval (.tmp 78) = .int .i64 ((X : Int) + (sz : Int)) := Mono.dep_at hdu (i := 7) (d := 78) rfl rfl rfl
              simp [Act.eval] at z78
              have z81 : a.eval (.tmp 81) = .int .i64 L := Mono.dep_at hdu (i := 10) (d := 81) rfl rfl rfl
              simp [Act.eval] at z81
              exact Mono.ok_val (.bool en) (by simp [execOp, z78, z81, go_sem, c0, c1, be1, en1]) rfl
            · intro a u hbu hsu hdu
              have HM := HATM.out.ext hbu; have c0 := HM.cell 0; have c1 := HM.cell 1; simp at c0 c1; have HRX := HRW.out.below hbu
              refine Mono.if_want rfl ?_
              exact Mono.ok_valW (.slice (some ⟨u.heap.size, 0, none⟩) 0 0) (u.alloc (.cells #[] 5)) (by simp [execOp, Sem.run_bind, nil30, Result.andThen_ok, go_sem]) ((Below.refl _ _).alloc (Nat.le_refl _) _) ⟨_, rfl, At.new _ _ _, Nat.le_trans HWS.out hbu.size⟩
            · intro a u hbu hsu hdu
              have HM := HATM.out.ext hbu; have c0 := HM.cell 0; have c1 := HM.cell 1; simp at c0 c1; have HRX := HRW.out.below hbu
              refine Mono.if_want rfl ?_
              have z5 : a.eval (.tmp 5) = .pointer (some ⟨w.heap.size, 0, none⟩) := hsu 5 (by decide)
              simp [Act.eval] at z5
              exact Mono.ok_val (.pointer (some ⟨w.heap.size, 1, none⟩)) (by simp [execOp, z5, go_sem, c0, c1, be1, en1]) rfl
            · intro a u hbu hsu hdu
              have HM := HATM.out.ext hbu; have c0 := HM.cell 0; have c1 := HM.cell 1; simp at c0 c1; have HRX := HRW.out.below hbu
              refine Mono.if_want rfl ?_
              have z84 : a.eval (.tmp 84) = .pointer (some ⟨w.heap.size, 1, none⟩) := Mono.dep_at hdu (i := 13) (d := 84) rfl rfl rfl
              simp [Act.eval] at z84
              exact Mono.ok_val (.slice (some ⟨b, off, none⟩) L cap) (by simp [execOp, z84, go_sem, c0, c1, be1, en1]) rfl
            · intro a u hbu hsu hdu
              have HM := HATM.out.ext hbu; have c0 := HM.cell 0; have c1 := HM.cell 1; simp at c0 c1; have HRX := HRW.out.below hbu
              refine Mono.if_want rfl ?_
              exact Mono.ok_move (.tmp 12) rfl (hsu 12 (by decide))
            · intro a u hbu hsu hdu
              have HM := HATM.out.ext hbu; have c0 := HM.cell 0; have c1 := HM.cell 1; simp at c0 c1; have HRX := HRW.out.below hbu
              refine Mono.if_want rfl ?_
              exact Mono.ok_move (.tmp 13) rfl (hsu 13 (by decide))
            · intro a u hbu hsu hdu
              have HM := HATM.out.ext hbu; have c0 := HM.cell 0; have c1 := HM.cell 1; simp at c0 c1; have HRX := HRW.out.below hbu
              refine Mono.if_want rfl ?_
              have z86 : a.eval (.tmp 86) = .int .i64 X := Mono.dep_at hdu (i := 15) (d := 86) rfl rfl rfl
              have z87 : a.eval (.tmp 87) = .int .i64 ((X : Int) + (sz : Int)) := Mono.dep_at hdu (i := 16) (d := 87) rfl rfl rfl
              have z85 : a.eval (.tmp 85) = .slice (some ⟨b, off, none⟩) L cap := Mono.dep_at hdu (i := 14) (d := 85) rfl rfl rfl
              obtain ⟨i0, hi, hz0, hz1, hz2⟩ := info_parts info5
              exact Mono.ok_sub 30 (.tmp 85) (.tmp 86) (.tmp 87) rfl _ i0 Try.underlying30 hi hz1 _ _ _ _ _ z85 z86 z87 (HRX) (by omega) (by omega) (by omega) (HEQ.out) (fun _ h => h)
            · intro a u hbu hsu hdu
              have HM := HATM.out.ext hbu; have c0 := HM.cell 0; have c1 := HM.cell 1; simp at c0 c1; have HRX := HRW.out.below hbu
              refine Mono.if_want rfl ?_
              obtain ⟨g0, e0, hat0, hB0⟩ : (freshP w.heap.size).R (a.eval (.tmp 83)) u := Mono.dep_at hdu (i := 12) (d := 83) rfl rfl rfl
              have h88 : Mem.Reads .u8 u (a.eval (.tmp 88)) ((xs.drop X).take sz) := Mono.dep_at hdu (i := 17) (d := 88) rfl rfl rfl
              obtain ⟨i0, hi, hz0, hz1, hz2⟩ := info_parts info5
              exact wp_append_fresh (.tmp 83) (.tmp 88) 30 rfl .u8 w.heap.size 5 1 g0 i0 (.int .u8 0) Try.underlying30 hi hz0 hz1 hz2 rfl _ _ e0 rfl hat0 h88 hB0 (by rw [List.length_take]; simp [maxLen]; omega) (by rw [List.length_take]; omega) (fun v' w' h1 h2 _ => ⟨v', rfl, h2, h1⟩)
            · intro a u hbu hsu hdu
              have HM := HATM.out.ext hbu; have c0 := HM.cell 0; have c1 := HM.cell 1; simp at c0 c1; have HRX := HRW.out.below hbu
              refine Mono.if_want rfl ?_
              have z73 : a.eval (.tmp 73) = .int .u16 s := Mono.dep_at hdu (i := 2) (d := 73) rfl rfl rfl
              have z74 : a.eval (.tmp 74) = .int .u16 (cutSq un nx s) := Mono.dep_at hdu (i := 3) (d := 74) rfl rfl rfl
              have z75 : a.eval (.tmp 75) = .bool un := Mono.dep_at hdu (i := 4) (d := 75) rfl rfl rfl
              have z77 : a.eval (.tmp 77) = .bool be := Mono.dep_at hdu (i := 6) (d := 77) rfl rfl rfl
              have z82 : a.eval (.tmp 82) = .bool en := Mono.dep_at hdu (i := 11) (d := 82) rfl rfl rfl
              have h89 : Row .u8 5 w.heap.size u (a.eval (.tmp 89)) ((xs.drop X).take sz) := Mono.dep_at hdu (i := 18) (d := 89) rfl rfl rfl
              obtain ⟨d89, z89⟩ : ∃ d, a.eval (.tmp 89) = d := ⟨_, rfl⟩
              rw [z89] at h89
              obtain ⟨p89, c89, rfl, _⟩ := id h89.reads
              simp [Act.eval] at z73 z74 z75 z77 z82 z89
              exact Mono.ok_build 45 _ rfl #[(1, .int .u16 s), (2, .int .u16 (cutSq un nx s)), (5, .bool un), (3, .bool be), (4, .bool en), (6, .slice p89 ((xs.drop X).take sz).length c89)] (by simp [z73, z74, z75, z77, z82, z89, Act.eval]) (.agg (row ⟨0, s, cutSq un nx s, be, en, un, (xs.drop X).take sz⟩ (.slice p89 ((xs.drop X).take sz).length c89)).toArray) (by kernel_rfl) ⟨_, rfl, h89⟩
            · intro a u hbu hsu hdu
              have HM := HATM.out.ext hbu; have c0 := HM.cell 0; have c1 := HM.cell 1; simp at c0 c1; have HRX := HRW.out.below hbu
              refine Mono.if_want rfl ?_
              obtain ⟨d90, e90, h90⟩ : (pieceP w.heap.size ⟨0, s, cutSq un nx s, be, en, un, (xs.drop X).take sz⟩).R (a.eval (.tmp 90)) u := Mono.dep_at hdu (i := 19) (d := 90) rfl rfl rfl
              simp [Act.eval] at e90
              exact Mono.ok_valW (.slice (some ⟨u.heap.size, 0, none⟩) 1 1) (u.alloc (.cells (row ⟨0, s, cutSq un nx s, be, en, un, (xs.drop X).take sz⟩ d90).toArray 45)) (by simp [execOp, Sem.run_bind, Act.eval, e90, build35, Result.andThen_ok]) ((Below.refl _ _).alloc (Nat.le_refl _) _) ⟨_, _, rfl, At.new _ _ _, Row.below h90 ((Below.refl _ _).alloc (Nat.le_refl _) _)⟩
          intro u hu
          simp only [Mono.Fin]
          rintro _ rfl _ rfl _ rfl _ rfl _ rfl _ rfl _ rfl _ rfl _ rfl _ rfl _ rfl _ rfl v83 h83 _ rfl _ rfl _ rfl _ rfl v88 h88 v89 h89 v90 h90 v91 h91
          obtain ⟨g91, d91, rfl, hat91, hrow91⟩ := h91
          have hqu := HQ.out.below hu
          obtain ⟨v92, w92, hrun, hq92, hg92⟩ := run_append1 (m := 1) hqu ⟨0, s, cutSq un nx s, be, en, un, (xs.drop X).take sz⟩ d91 hat91 hrow91 (by have := HSZ.out; have := hu.size; omega) (by rw [PR_length]; omega)
          have hlt91 := hqu.ownD.ownL.lt
          have hg := grown_trans (grown_below _ hu) hg92
          have HB92 : Hid (ButX (fun k => k = gC) w w92) := ButX.trans HBX.out ((ButX.ofGrown hg (fun k e => e)).mono (fun k e => .inr ⟨(hlt91 k e).1, by have := HQ.out.ownD.ownL.lt k e; omega⟩))
          have HAC92 : Hid (At w92 gC 29 (nxA (cutNx un nx s))) := HATC2.out.kept' hg (fun e => by have := (hlt91 _ e).1; have := HLT.out; omega)
          have HAM92 : Hid (At w92 w.heap.size 32 #[.int .u16 s, .slice (some ⟨b, off, none⟩) L cap]) := HATM.out.kept' hg (own_at_ne HQ.out HATM.out (by decide))
          have HS92 : Hid (w.heap.size + 1 ≤ w92.heap.size) := Nat.le_trans HSZ.out hg.size
          have HQ92 : Hid (OwnQ w.heap.size w92 v92 (PR s (cutSq un nx s) un xs sz (j + 1))) := by
            show OwnQ _ _ _ _
            rw [PR_succ, HBE.out, ← HEN.out, ← hjX.1]
            exact hq92
          simp only [List.drop_succ_cons, List.drop_zero]
          have HRUN := Lib.hid hrun
          clear hg hg92 hq92 hqu hrun hlt91 hat91 hrow91 h83 h88 h89 h90
          simp [Act.put]
          go_wp2_with ((with_reducible refine wpl_appendV rfl 35 (.tmp 71) (.tmp 91) rfl (.slice pv j cv) (.slice (some ⟨g91, 0, none⟩) 1 1) v92 w92 ?_ ?_ HRUN.out ?_); rfl; rfl)
          go_roundw
          case rel => exact ⟨j + 1, X + sz, ⟨by rw [hjX.1, Nat.add_mul]; omega, .inr (by have := hjX.1; simp; omega)⟩, by go_num, HQ92.out, HAC92.out, HAM92.out, HB92.out, HS92.out⟩
          case measure => simp [intOf]; omega
      · have hltz : ¬ (X : Int) < (L : Int) := by exact_mod_cast hlt
        have hltb : decide ((X : Int) < (L : Int)) = false := decide_eq_false hltz
        have hm := hjX
        obtain ⟨k, rfl⟩ : ∃ k, j = k + 1 := by
          rcases j with _ | k
          · exfalso; have := hjX.1; have := H0.out; simp at *; omega
          · exact ⟨k, rfl⟩
        have k1 : L ≤ (k + 1) * sz := by have := hjX.1; omega
        have k2 : k * sz < L := by
          rcases hjX.2 with h | h
          · cases h
          · simpa using h
        have hq := HQ.out
        have hall := PR_all s (cutSq un nx s) un xs sz k (by rw [HLX.out]; exact k1) (by rw [HLX.out]; exact k2)
        rw [hall] at hq
        have hl := PE_length s (cutSq un nx s) un xs sz (k + 1)
        obtain ⟨g, c, rfl, q1, q2, _, _⟩ := hq.block (by omega)
        rw [hl] at hq q1 ⊢
        have K1 := Lib.hid k1
        have K2 := Lib.hid k2
        have HQE := Lib.hid hq
        have Q1 := Lib.hid q1
        have Q2 := Lib.hid q2
        clear hm k1 k2 hq hall hl q1 q2 HQ
        go_wp2_with fail
        go_ret2
        exact ⟨g, c, k, rfl, K1.out, K2.out, Q1.out, Q2.out, HQE.out, HATC2.out, HBX.out⟩
theorem rcut_ok (w : World) (gC : Nat) (nx : Nat → Int) (hat : At w gC 29 (nxA nx)) (s : Nat) (hs : s < 8) (v : Value) (L sz : Nat) (xs : List Int) (un : Bool) (hr : Reads .u8 w v xs) (hLx : xs.length = L) (hL0 : 0 < L) (hL : L ≤ 4096) (hsz : 0 < sz) (hsz' : sz ≤ 256) (hn : 0 ≤ nx s ∧ nx s ≤ 65535) :
    Calls Try.prog 12 #[.pointer (some ⟨gC, 0, none⟩), .agg #[.int .u16 s, v], .bool un, .int .i64 sz] w (RCutIs w gC nx s L sz un xs) := by
  obtain ⟨p, cap, rfl, h1, h2, h3, h4⟩ := id hr
  obtain ⟨b, off, rfl, _, _⟩ := h4 (by omega)
  rw [hLx] at hr ⊢
  exact rcutOrd w gC nx hat s hs b off cap L sz xs un hr hL0 hL hsz hsz' hn
end Go.Proofs.Yteiiifonejkjbaa.Chunk
