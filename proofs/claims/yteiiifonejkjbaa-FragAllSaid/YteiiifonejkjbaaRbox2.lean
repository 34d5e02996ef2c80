/-
  Contracts of the reference's box: piece (26), from (27).
-/
import Derived.Test.YteiiifonejkjbaaRbox1
namespace Go.Proofs.Yteiiifonejkjbaa.Rb
open Go.RowKit Mem Cells Ops Pcs Go.Maps Go.Proofs.Yteiiifonejkjbaa.Open Go.Proofs.Yteiiifonejkjbaa.Bx
set_option linter.unusedVariables false
set_option linter.unusedSimpArgs false
attribute [local go_sem] Oper.semAt_some

def PieceIs (w : World) (h : List A) (t : Int) : Ending → World → Prop := fun e w' => ∃ r : Int, e = .returned (.int .i64 r) ∧ ((r = -1 ∧ getH h t = none) ∨ (∃ (i : Nat) (a : A), r = (i : Int) ∧ h[i]? = some a ∧ a.tsn = t ∧ getH h t = some a)) ∧ Below w.heap.size w w'
set_option maxRecDepth 100000 in
set_option maxHeartbeats 1600000 in
theorem piece {w : World} {Z g : Nat} {vh vt : Value} {x : S} (H : RB Z w g vh vt x) (t : Int) : Calls Try.prog 26 #[.pointer (some ⟨g, 0, none⟩), .int .u32 t] w (PieceIs w x.held t) := by
  obtain ⟨p, c, hv, h1, h2⟩ := H.held.shape
  obtain ⟨L, hL⟩ : ∃ L, x.held.length = L := ⟨_, rfl⟩
  have HL := Lib.hid hL
  have HQ := Lib.hid H.held
  have hLm : L ≤ 512 := by rw [← hL]; exact H.ok.1.1
  have c0 := H.row.cell 0
  simp [rbA] at c0
  rw [hv] at c0
  rw [hL] at c0
  obtain ⟨hh, hhd⟩ : ∃ hh, x.held = hh := ⟨_, rfl⟩
  rw [hhd] at HL HQ ⊢
  have HV := Lib.hid hv
  obtain ⟨W0, hW0⟩ : ∃ W0, w = W0 := ⟨w, rfl⟩
  rw [hW0] at c0 HQ ⊢
  clear hv h1 h2 hL hhd hW0 H
  go_enter Try.func26, Try.ntmps26
  go_upto_region 2 with fail
  go_loopw [5] (fun i wr => ∃ j : Nat, i = .int .i64 (j : Int) ∧ Hid (j ≤ L ∧ ∀ k : Nat, k < j → ∀ b, hh[k]? = some b → b.tsn ≠ t) ∧ wr = W0) (fun i _ => L - (intOf i).toNat)
  case atStart => exact ⟨0, rfl, ⟨Nat.zero_le _, fun k hk => absurd hk (Nat.not_lt_zero k)⟩, rfl⟩
  case round =>
    obtain ⟨j, rfl, hj, rfl⟩ := hrel
    by_cases hlt : j < L
    · have hltz : (j : Int) < (L : Int) := by omega
      have hltb : decide ((j : Int) < (L : Int)) = true := decide_eq_true hltz
      obtain ⟨a, ha⟩ : ∃ a, hh[j]? = some a := ⟨hh[j]'(by rw [HL.out]; exact hlt), by simp⟩
      obtain ⟨q, cc, hvq, hcc, hcm, _, hqlt⟩ := HQ.out.block (by rw [HL.out]; omega)
      have hpe : p = some ⟨q, 0, none⟩ ∧ c = cc := by
        have h1 := HV.out
        rw [hvq] at h1
        simp only [Value.slice.injEq] at h1
        exact ⟨h1.1.symm, h1.2.2.symm⟩
      obtain ⟨rfl, rfl⟩ := hpe
      have HQ2 := HQ.out
      rw [hvq] at HQ2
      obtain ⟨pd, md, hra, hrow⟩ := Chunk.OwnQ.elem HQ2 j a ha
      have cj := hra 0 _ rfl
      rw [Nat.add_zero] at cj
      have HA := Lib.hid ha
      clear hra hrow HQ2 hvq hcc hcm hqlt ha
      by_cases hte : a.tsn = t
      · have heq : (a.tsn == t) = true := by simpa using hte
        have HT := Lib.hid hte
        clear hte
        go_wp2_with fail
        go_ret
        exact ⟨_, rfl, .inr ⟨j, a, rfl, HA.out, HT.out, by rw [← HT.out]; exact getH_at HA.out (fun k hk b hb => by rw [HT.out]; exact hj.2 k hk b hb)⟩, Below.refl _ _⟩
      · have heq : (a.tsn == t) = false := by simpa using hte
        have HT := Lib.hid hte
        clear hte
        go_wp2_with fail
        go_roundw
        case rel => exact ⟨j + 1, by go_num, ⟨by omega, fun k hk b hb => by
          by_cases e : k = j
          · subst e; rw [HA.out] at hb; cases hb; exact HT.out
          · exact hj.2 k (by omega) b hb⟩, trivial⟩
        case measure => simp [intOf]; omega
    · have hltz : ¬ (j : Int) < (L : Int) := by omega
      have hltb : decide ((j : Int) < (L : Int)) = false := decide_eq_false hltz
      go_wp2_with fail
      go_ret
      exact ⟨-1, rfl, .inl ⟨rfl, getH_gone (fun k hk b hb => hj.2 k (by rw [HL.out] at hk; have := hj.1; omega) b hb)⟩, Below.refl _ _⟩

def FromIs (w : World) (h : List A) (t : Int) : Ending → World → Prop := fun e w' => e = .returned (.int .i64 (fromF h t)) ∧ Below w.heap.size w w'
theorem field3 (a : A) (d : Value) : (row a d)[3]? = some (.bool a.bg) := rfl
/-- So far on, in from. -/
def GoAt (h : List A) (t : Int) (p : A) (n : Nat) (k : Nat) (cur : A) : Prop := 1 ≤ n ∧ n ≤ 512 ∧ h[k]? = some cur ∧ (∀ i : Nat, i < n → (getH h (stp t (1 * (i : Int)))).isSome = true) ∧ fromF h t = goF (601 - n) h p t n cur
theorem GoAt.start {h : List A} {t : Int} {p : A} {k : Nat} (ht : isU32 t) (hk : h[k]? = some p) (hg : getH h t = some p) (hb : p.bg = true) : GoAt h t p 1 k p := by
  refine ⟨by omega, by omega, hk, fun i hi => ?_, ?_⟩
  · have : i = 0 := by omega
    subst this
    rw [show (1 * ((0 : Nat) : Int)) = 0 from rfl, stp_0 ht, hg]; rfl
  · unfold fromF; rw [hg]; simp only; rw [if_pos hb]
theorem GoAt.done {h : List A} {t : Int} {p cur : A} {n k : Nat} (hg : GoAt h t p n k cur) (he : cur.en = true) : fromF h t = n := by
  obtain ⟨h1, h2, _, _, h5⟩ := hg
  rw [h5, show 601 - n = (600 - n) + 1 by omega]
  unfold goF
  rw [if_pos he]
theorem GoAt.gone {h : List A} {t : Int} {p cur : A} {n k : Nat} (hg : GoAt h t p n k cur) (he : cur.en = false) (hn : getH h (stp t (n : Int)) = none) : fromF h t = 0 := by
  obtain ⟨h1, h2, _, _, h5⟩ := hg
  rw [h5, show 601 - n = (600 - n) + 1 by omega]
  unfold goF
  rw [if_neg (by rw [he]; decide), hn]
theorem GoAt.stop {h : List A} {t : Int} {p cur q : A} {n k : Nat} (hg : GoAt h t p n k cur) (he : cur.en = false) (hn : getH h (stp t (n : Int)) = some q) (hs : q.bg = true ∨ alikeB q p = false) : fromF h t = 0 := by
  obtain ⟨h1, h2, _, _, h5⟩ := hg
  rw [h5, show 601 - n = (600 - n) + 1 by omega]
  unfold goF
  rw [if_neg (by rw [he]; decide), hn]
  simp only
  rw [if_pos hs]
theorem GoAt.next {h : List A} {t : Int} {p cur q : A} {n k k' : Nat} (hg : GoAt h t p n k cur) (he : cur.en = false) (hn : getH h (stp t (n : Int)) = some q) (hk : h[k']? = some q) (hb : q.bg = false) (ha : alikeB q p = true) (hlen : h.length ≤ 512) : GoAt h t p (n + 1) k' q := by
  obtain ⟨h1, h2, h3, h4, h5⟩ := hg
  have hall : ∀ i : Nat, i < n + 1 → (getH h (stp t (1 * (i : Int)))).isSome = true := by
    intro i hi
    by_cases e : i = n
    · subst e
      rw [show (1 * (i : Int)) = (i : Int) by omega, hn]; rfl
    · exact h4 i (by omega)
  have := steps_le 1 (.inl rfl) (by omega) hall
  refine ⟨by omega, by omega, hk, hall, ?_⟩
  rw [h5, show 601 - n = (601 - (n + 1)) + 1 by omega]
  conv => lhs; unfold goF
  rw [if_neg (by rw [he]; decide), hn]
  simp only
  rw [if_neg (by rw [hb, ha]; decide)]
/-- Where the list lies, and a piece of it. -/
theorem RB.at {w : World} {Z g : Nat} {vh vt : Value} {x : S} (H : RB Z w g vh vt x) {k : Nat} {a : A} (hk : x.held[k]? = some a) :
    ∃ q c pd md, vh = .slice (some ⟨q, 0, none⟩) x.held.length c ∧ k < x.held.length ∧ x.held.length ≤ c ∧ q < w.heap.size ∧ w.rangeAt q (k * 7) (Pcs.row a (.slice pd a.data.length md)) ∧ Row .u8 5 Z w (.slice pd a.data.length md) a.data := by
  have hkl := (List.getElem?_eq_some_iff.1 hk).1
  obtain ⟨q, c, hv, h1, h2, _, h3⟩ := H.held.block (by omega)
  have h4 := H.held
  rw [hv] at h4
  obtain ⟨pd, md, hra, hrow⟩ := Chunk.OwnQ.elem h4 k a hk
  exact ⟨q, c, pd, md, hv, hkl, h1, h3, hra, hrow⟩
set_option maxRecDepth 100000 in
set_option maxHeartbeats 4000000 in
theorem from27 {w : World} {Z g : Nat} {vh vt : Value} {x : S} (H : RB Z w g vh vt x) (t : Int) (ht : isU32 t) : Calls Try.prog 27 #[.pointer (some ⟨g, 0, none⟩), .int .u32 t] w (FromIs w x.held t) := by
  have hLm : x.held.length ≤ 512 := H.ok.1.1
  have HLM := Lib.hid hLm
  have HT := Lib.hid ht
  have HH := Lib.hid H
  obtain ⟨hh, hhd⟩ : ∃ hh, x.held = hh := ⟨_, rfl⟩
  have HHD := Lib.hid hhd
  rw [hhd]
  obtain ⟨W0, hW0⟩ : ∃ W0, w = W0 := ⟨w, rfl⟩
  rw [hW0] at HH ⊢
  clear hLm ht H hhd hW0
  go_enter Try.func27, Try.ntmps27
  go_upto_region 2 with (go_at_call 26; go_must (refine (piece HH.out t).mono ?_; rintro e w1 ⟨r, rfl, hr, hb1⟩; have HR := Lib.hid hr; have HB1 := Lib.hid hb1; have HH1 := Lib.hid (HH.out.below hb1); clear hr hb1))
  rcases HR.out with ⟨rfl, hnone⟩ | ⟨k, a, rfl, hk, hat, hget⟩
  · have HN := Lib.hid hnone
    clear hnone HR
    go_wp2_with fail
    go_ret
    exact ⟨by have h1 := HN.out; rw [HHD.out] at h1; unfold fromF; rw [h1]; rfl, HB1.out⟩
  · obtain ⟨q, c, pd, md, hv, hkl, hlc, hql, hra, hrow⟩ := HH1.out.at hk
    subst hv
    have HK := Lib.hid hk
    have HG := Lib.hid hget
    have c0 := HH1.out.row.cell 0
    simp [rbA] at c0
    obtain ⟨L, hL⟩ : ∃ L, x.held.length = L := ⟨_, rfl⟩
    obtain ⟨ad, had⟩ : ∃ ad, a.data.length = ad := ⟨_, rfl⟩
    have HL := Lib.hid hL
    rw [hL] at c0 hkl hlc HH1
    rw [had] at hra
    have HRA := Lib.hid hra
    have c3 := hra 3 _ rfl
    have hkz : (k : Int) < (L : Int) := by omega
    have hk0 : ¬ (k : Int) < 0 := by omega
    have hk0b : decide ((k : Int) < 0) = false := decide_eq_false hk0
    have hk63 : L ≤ 512 := by have := HLM.out; omega
    have HQL := Lib.hid hql
    clear hk hat hget hrow hL had hra hql HR
    cases hbg : a.bg with
    | false =>
      rw [hbg] at c3
      have HBG := Lib.hid hbg
      clear hbg
      go_wp2_with fail
      go_ret
      exact ⟨by have h1 := HG.out; rw [HHD.out] at h1; unfold fromF; rw [h1]; simp only; rw [if_neg (by rw [HBG.out]; decide)]; rfl, HB1.out⟩
    | true =>
      rw [hbg] at c3
      have HGA := Lib.hid (GoAt.start HT.out HK.out HG.out hbg)
      clear hbg
      go_upto_region 6 with (first
        | ((with_reducible refine wpl_loadE rfl 45 (.tmp 30) rfl q (k * 7) ?_ (row a (.slice pd ad md)).toArray _ HRA.out Try.underlying45 rfl (by kernel_rfl) ?_); rfl)
        | ((with_reducible refine wpl_allocAt rfl 45 rfl #[.int .u32 0, .int .u16 0, .int .u16 0, .bool false, .bool false, .bool false, .slice none 0 0] (by kernel_rfl) ?_); go_must (intro w2 hat2 hb2 hs2; have HB2 := Lib.hid (HB1.out.trans (hb2.mono HB1.out.size)); have HC2 := Lib.hid hb2; clear hb2 hs2))
        | ((with_reducible refine wpl_storeR rfl 45 (.tmp 6) (.tmp 31) rfl rfl w1.heap.size 45 #[.int .u32 0, .int .u16 0, .int .u16 0, .bool false, .bool false, .bool false, .slice none 0 0] (row a (.slice pd ad md)).toArray ?_ ?_ hat2 (by kernel_rfl) ?_ ?_ ?_); rfl; rfl; rfl; (simp [Value.oneCell', row]); go_must (intro w3 hat3 hg3; have HA3 := Lib.hid hat3; have HB3 := Lib.hid (below_grown HB2.out hg3 HB2.out.size HB1.out.size); have HC3 := Lib.hid (below_grown HC2.out hg3 HC2.out.size (Nat.le_refl _)); clear hat2 hat3 hg3)))
      have HH3 := Lib.hid (HH1.out.below HC3.out)
      have HS3 := Lib.hid HA3.out.lt
      go_loopw [5, 7] (fun v5 v7 wr => ∃ (k n : Nat) (cur : A), v5 = .int .i64 (k : Int) ∧ v7 = .int .i64 (n : Int) ∧ Hid (GoAt x.held t a n k cur) ∧ Hid (RB Z wr g (.slice (some ⟨q, 0, none⟩) L c) vt x) ∧ Hid (At wr w1.heap.size 45 (row a (.slice pd ad md)).toArray) ∧ Hid (Below W0.heap.size W0 wr)) (fun _ v7 _ => 600 - (intOf v7).toNat)
      case atStart => exact ⟨k, 1, a, rfl, rfl, HGA.out, HH3.out, HA3.out, HB3.out⟩
      case round =>
        clear HGA HH3 HA3 HB3 HB2 HC2 HC3 HRA c0 c3
        obtain ⟨k, n, cur, rfl, rfl, HGr, HHr, HAr, HBr⟩ := hrel
        obtain ⟨pe, me, hra, hrow⟩ := Chunk.OwnQ.elem HHr.out.held k cur HGr.out.2.2.1
        have hkl : k < L := by have := (List.getElem?_eq_some_iff.1 HGr.out.2.2.1).1; rw [HL.out] at this; exact this
        have hkz : (k : Int) < (L : Int) := by omega
        have hk0 : ¬ (k : Int) < 0 := by omega
        have hk0b : decide ((k : Int) < 0) = false := decide_eq_false hk0
        have hn1 : 1 ≤ n := HGr.out.1
        have hn2 : n ≤ 512 := HGr.out.2.1
        have c0 := HHr.out.row.cell 0
        simp [rbA] at c0
        have c4 := hra 4 _ rfl
        clear hra hrow
        cases hen : cur.en with
        | true =>
          rw [hen] at c4
          have HD := Lib.hid (HGr.out.done hen)
          clear hen
          go_wp2_with fail
          go_ret
          exact ⟨by have h1 := HD.out; rw [HHD.out] at h1; rw [h1]; rfl, HBr.out⟩
        | false =>
          rw [hen] at c4
          have HEN := Lib.hid hen
          clear hen
          go_upto_region 8 with (go_at_call 26; go_must (refine (piece HHr.out _).mono ?_; rintro e w4 ⟨r, rfl, hr, hb4⟩; have HR := Lib.hid hr; have HB4 := Lib.hid (HBr.out.trans (hb4.mono HBr.out.size)); have HA4 := Lib.hid (HAr.out.ext hb4); have HH4 := Lib.hid (HHr.out.below hb4); clear hr hb4))
          have hst : (t + (n : Int)) % 4294967296 = stp t (n : Int) := by unfold stp; rw [Bx.wrap32]
          rw [hst] at HR ⊢
          clear hst c0 c4
          have h1 := HR.out
          rcases h1 with ⟨rfl, hnone⟩ | ⟨k', r, rfl, hk', _, hget⟩
          · have HD := Lib.hid (HGr.out.gone HEN.out hnone)
            clear hnone HR
            go_wp2_with fail
            go_ret
            exact ⟨by have h1 := HD.out; rw [HHD.out] at h1; rw [h1]; rfl, HB4.out⟩
          · obtain ⟨pr, mr, hra, hrow⟩ := Chunk.OwnQ.elem HH4.out.held k' r hk'
            have hkl' : k' < L := by have := (List.getElem?_eq_some_iff.1 hk').1; rw [HL.out] at this; exact this
            have hkz' : (k' : Int) < (L : Int) := by omega
            have hk0' : ¬ (k' : Int) < 0 := by omega
            have hk0b' : decide ((k' : Int) < 0) = false := decide_eq_false hk0'
            have c0 := HH4.out.row.cell 0
            simp [rbA] at c0
            obtain ⟨rd, hrd⟩ : ∃ rd, r.data.length = rd := ⟨_, rfl⟩
            rw [hrd] at hra
            have HRA := Lib.hid hra
            have HK := Lib.hid hk'
            have HGT := Lib.hid hget
            clear hra hrow hk' hget hrd HR
            go_upto_region 11 with (first
              | ((with_reducible refine wpl_loadE rfl 45 (.tmp 54) rfl q (k' * 7) ?_ (row r (.slice pr rd mr)).toArray _ HRA.out Try.underlying45 rfl (by kernel_rfl) ?_); rfl)
              | ((with_reducible refine wpl_allocAt rfl 45 rfl #[.int .u32 0, .int .u16 0, .int .u16 0, .bool false, .bool false, .bool false, .slice none 0 0] (by kernel_rfl) ?_); go_must (intro w5 hat5 hb5 hs5; have HB5 := Lib.hid (HB4.out.trans (hb5.mono HB4.out.size)); have HC5 := Lib.hid hb5; have HA5 := Lib.hid (HA4.out.ext hb5); clear hb5 hs5))
              | ((with_reducible refine wpl_storeR rfl 45 (.tmp 8) (.tmp 55) rfl rfl w4.heap.size 45 #[.int .u32 0, .int .u16 0, .int .u16 0, .bool false, .bool false, .bool false, .slice none 0 0] (row r (.slice pr rd mr)).toArray ?_ ?_ hat5 (by kernel_rfl) ?_ ?_ ?_); rfl; rfl; rfl; (simp [Value.oneCell', row]); go_must (intro w6 hat6 hg6; have HB6 := Lib.hid (below_grown HB5.out hg6 HB5.out.size HB4.out.size); have HC6 := Lib.hid (below_grown HC5.out hg6 HC5.out.size (Nat.le_refl _)); have HA6 := Lib.hid (HA4.out.ext HC6.out); have HX6 := Lib.hid hat6; clear hat5 hat6 hg6)))
            have HH6 := Lib.hid (HH4.out.below HC6.out)
            clear c0
            have m1 := HA6.out.cell 1
            have m2 := HA6.out.cell 2
            have m5 := HA6.out.cell 5
            have r1 := HX6.out.cell 1
            have r2 := HX6.out.cell 2
            have r3 := HX6.out.cell 3
            have r5 := HX6.out.cell 5
            simp [row] at m1 m2 m5 r1 r2 r3 r5
            obtain ⟨e1, h1⟩ : ∃ e, (r.stream != a.stream) = e := ⟨_, rfl⟩
            obtain ⟨e2, h2⟩ : ∃ e, (r.seq != a.seq) = e := ⟨_, rfl⟩
            obtain ⟨ru, h3⟩ : ∃ e, r.un = e := ⟨_, rfl⟩
            obtain ⟨au, h5⟩ : ∃ e, a.un = e := ⟨_, rfl⟩
            obtain ⟨rb, h4⟩ : ∃ e, r.bg = e := ⟨_, rfl⟩
            have HE := Lib.hid (And.intro h1 (And.intro h2 (And.intro h3 (And.intro h4 h5))))
            rw [h4] at r3
            rw [h3] at r5
            rw [h5] at m5
            clear h3 h4 h5 HA4 HB4 HH4 HB5 HC5 HA5
            have HST : Hid (∀ _ : rb = true ∨ e1 = true ∨ e2 = true ∨ ru ≠ au, fromF x.held t = 0) := by
              intro hc
              refine HGr.out.stop HEN.out HGT.out ?_
              obtain ⟨g1, g2, g3, g4, g5⟩ := HE.out
              rcases hc with rfl | rfl | rfl | hne
              · exact .inl g4
              · right; unfold alikeB; rw [bne, Bool.not_eq_true'] at g1; simp [g1]
              · right; unfold alikeB; rw [bne, Bool.not_eq_true'] at g2; simp [g2]
              · right; unfold alikeB; rw [g3, g5, show (ru == au) = false by simpa using hne]; simp
            have HGO : Hid (∀ _ : rb = false ∧ e1 = false ∧ e2 = false ∧ ru = au, GoAt x.held t a (n + 1) k' r) := by
              rintro ⟨rfl, rfl, rfl, rfl⟩
              obtain ⟨g1, g2, g3, g4, g5⟩ := HE.out
              rw [bne, Bool.not_eq_false'] at g1 g2
              exact HGr.out.next HEN.out HGT.out HK.out g4 (by unfold alikeB; rw [g1, g2, g3, g5]; simp) HLM.out
            clear HE
            cases rb <;> cases e1 <;> cases e2 <;> cases ru <;> cases au
            all_goals
              go_wp2_with fail
            all_goals first
              | exact ⟨⟨k', n + 1, r, rfl, by go_num, HGO.out ⟨rfl, rfl, rfl, rfl⟩, HH6.out, HA6.out, HB6.out⟩, by simp [intOf]; omega⟩
              | (go_ret; exact ⟨by have h1 := HST.out (by simp); rw [HHD.out] at h1; rw [h1]; rfl, HB6.out⟩)
end Go.Proofs.Yteiiifonejkjbaa.Rb
