/-
  The law NetTurns: the walk.
-/
import Derived.Test.YtmdhpjbahenbhaaTurns1
namespace Go.Proofs.Ytmdhpjbahenbhaa.Net
open Go.RowKit Mem Cells Ops Go.Maps
set_option linter.unusedVariables false
set_option linter.unusedSimpArgs false

/-- One net of the call's own. -/
def Own1 (B : Nat) (w : World) (S : Nat) (b : List Int) : Prop := ∃ X fs, Net X w S 2 fs (fun _ _ _ => false) 0 ∧ (∀ k, X k → B ≤ k ∧ k < w.heap.size) ∧ (∀ f ∈ fs, Once b f) ∧ 1 ≤ fs.length
theorem Own1.below {B : Nat} {w w' : World} {S : Nat} {b : List Int} (h : Own1 B w S b) (hb : Below w.heap.size w w') : Own1 B w' S b := by
  obtain ⟨X, fs, h1, h2, h3⟩ := h
  have hs := hb.size
  exact ⟨X, fs, h1.below hb, fun k hk => by have := h2 k hk; omega, h3⟩
/-- A call of kind 3, 4 or 5, the other net new. -/
theorem turnAct {B g : Nat} {w w1 : World} {S : Nat} {b : List Int} (h : Own1 B w S b) (hbw : Below w.heap.size w w1) (hg : w.heap.size ≤ g) (hat : At w1 g 49 (zeroNet 2)) (hBw : B ≤ w.heap.size) (hb : ∀ x ∈ b, 0 ≤ x ∧ x ≤ 255) (a0 : A) (d : Value) (hk : a0.kind = 3 ∨ a0.kind = 4 ∨ a0.kind = 5) (hok : a0.ok) (hd : d.oneCell' = true) :
    Calls Try.prog 16 #[.pointer (some ⟨S, 0, none⟩), .pointer (some ⟨g, 0, none⟩), .agg (rowA a0 d)] w1 fun e w' => (∃ r, e = .returned (.bool r)) ∧ Own1 B w' S b ∧ Below B w1 w' := by
  obtain ⟨X, fs, h1, h2, h3, h4⟩ := h
  have hs := hbw.size
  have hBw1 : B ≤ w1.heap.size := by omega
  have hT : Two (fun k => k < B) w1 S g 2 fs [] (fun _ _ _ => false) (fun _ _ _ => false) 0 := ⟨X, fun k => k = g, h1.below hbw, rNew hat (by omega), fun k hk e => by have := h2 k hk; omega, fun k hk => ⟨by have := h2 k hk; omega, by have := h2 k hk; omega⟩, fun k hk => by subst hk; exact ⟨by omega, hat.lt⟩, fun k hk => by omega⟩
  have fin : ∀ {fs' gs' : List F} {e : Ending} {w' : World}, (∀ f ∈ fs', Once b f) ∧ 1 ≤ fs'.length → ActPost2 (fun k => k < B) S g 2 fs' gs' (fun _ _ _ => false) (fun _ _ _ => false) 0 w1 e w' → (∃ r, e = .returned (.bool r)) ∧ Own1 B w' S b ∧ Below B w1 w' := by
    rintro fs' gs' e w' ⟨o1, o2⟩ ⟨p1, ⟨X', Y', p2⟩, p3⟩
    exact ⟨p1, ⟨X', fs', p2.net, fun k hk => ⟨by have := (p2.x k hk).1; omega, (p2.x k hk).2⟩, o1, o2⟩, but_below p3 hBw1⟩
  rcases hk with hk | hk | hk
  · exact (act3u hT a0 d hk hd).mono fun e w' hp => fin (once_twin h3 h4 a0.k) hp
  · exact (act4u hT a0 d hk hd).mono fun e w' hp => fin (once_last h3 h4 a0.k) hp
  · exact (act5u hT a0 d hk hd hok.bits hok.at_).mono fun e w' hp => fin (once_turn h3 h4 hb a0.k a0.at_ a0.bits hok.bits) hp
def zero52 : Array Value := #[.int .i64 0, .int .i64 0, .int .i64 0, .int .i64 0, .int .i64 0, .int .i64 0, .int .i64 0, .slice none 0 0, .int .u8 0, .bool false]
theorem rowA_one (a0 : A) (d : Value) (h : d.oneCell' = true) : (rowA a0 d).all (·.oneCell') = true := by
  cases d <;> first | (simp [rowA, Value.oneCell']; done) | cases h
set_option maxRecDepth 100000 in
set_option maxHeartbeats 800000 in
theorem turnsLarge (p : Option Addr) (l c : Nat) (v : Value) (w : World) (hl : l ≤ 9223372036854775807) (h : 4096 < l) :
    Calls Try.prog 6 #[.slice p l c, v] w fun e w' => e = .returned (.bool true) ∧ Below w.heap.size w w' := by
  have PN := Lib.hid (New 2 w (by omega))
  have h' : decide (4096 < (l : Int)) = true := decide_eq_true (by omega)
  clear h
  have K1 := Lib.hid (rfl : w = w)
  have K2 := K1
  go_enter Try.func6, Try.ntmps6
  go_wp2_with (first
    | (go_at_call 8; go_must (refine PN.out.mono ?_; rintro e w1 ⟨rfl, hN, hb1⟩; clear hN PN))
    | (go_at_call 9; have _t := K1; clear _t; go_must (refine (answers _).mono ?_; clear K1; rintro e w2 ⟨rfl, hb⟩; have hu2 := hb1.trans (hb.mono hb1.size); clear hb1 hb))
    | (go_at_call 9; have _t := K2; clear _t; go_must (refine (answers _).mono ?_; clear K2; rintro e w3 ⟨rfl, hb⟩; have hu3 := hu2.trans (hb.mono hu2.size); clear hu2 hb)))
  go_ret
  exact ⟨rfl, hu3⟩
set_option maxRecDepth 100000 in
set_option maxHeartbeats 3200000 in
theorem turns_ (p : Option Addr) (l c : Nat) (xs : List Int) (pa : Option Addr) (la ca : Nat) (zs : List (A × Value)) (w : World) (hr : Reads .u8 w (.slice p l c) xs) (hl : xs.length = l) (hx : ∀ x ∈ xs, 0 ≤ x ∧ x ≤ 255) (hA : Open.ReadsA w pa la ca zs) :
    Calls Try.prog 6 #[.slice p l c, .slice pa la ca] w fun e w' => e = .returned (.bool true) ∧ Below w.heap.size w w' := by
  have hl63 : l ≤ 9223372036854775807 := by obtain ⟨p', c', _, h1, h2, _⟩ := hr; have : c' ≤ 9223372036854775807 := h2; omega
  by_cases hbig : 4096 < l
  · exact turnsLarge p l c _ w hl63 hbig
  have hl4 : l ≤ 4096 := by omega
  have hla63 : la ≤ 9223372036854775807 := by have := hA.le; unfold maxLen at this; omega
  have PN := Lib.hid (New 2 w (by omega))
  have t4 : decide (4096 < (l : Int)) = false := decide_eq_false (by omega)
  have ES := Lib.hid (show sendE 2 0 0 1 0 xs = 0 by unfold sendE; rw [if_pos (show sendArg 2 0 0 1 0 = true from rfl), if_neg (by omega)])
  have EL := Lib.hid (show sendL 2 (fun _ _ _ => false) 0 0 1 0 xs [] = [⟨0, 0, 1, 0, xs, false⟩] by unfold sendL; rw [ES.out]; rfl)
  have HX := Lib.hid (And.intro hr (And.intro hl hx))
  have HXL := Lib.hid (show xs.length ≤ 9223372036854775807 by omega)
  have HM1 := Lib.hid (show ([] : List Int).length + xs.length ≤ maxLen by simp [maxLen]; omega)
  have HM2 := Lib.hid (show (([] : List Int).length + xs.length) * 1 ≤ 140737488355328 by simp; omega)
  have HA := Lib.hid hA
  clear hbig hr hl hx hA
  go_enter Try.func6, Try.ntmps6
  go_upto_region 6 with (first
    | (go_at_call 8; go_must (refine PN.out.mono ?_; rintro e w1 ⟨rfl, hN, hb1⟩; have hN1 := Lib.hid hN; have hX1 := Lib.hid hb1; clear hN PN hb1))
    | (go_at_call 9; go_must (refine (answers _).mono ?_; rintro e w2 ⟨rfl, hb⟩; have hu2 := hX1.out.trans (hb.mono hX1.out.size); have hN2 := Lib.hid (hN1.out.below hb); have hT1 := Lib.hid hb.size; clear hb hN1))
    | ((with_reducible refine wpl_empty rfl 31 5 rfl .u8 (fun _ => by kernel_rfl) ?_); go_must (intro w3 hr3 hb3 hs3; have HS3 := Lib.hid hs3; clear hs3; have HR3 := Lib.hid hr3; have HB3 := Lib.hid hb3; clear hr3 hb3))
    | (at_builtin; go_must (have hsr := (HX.out.1.below hu2).below HB3.out; have hub := HB3.out.size; obtain ⟨i0, hi, hz0, hz1, hz2⟩ := info_parts info5; refine wpl_append rfl (.tmp 32) (.tmp 33) 31 rfl .u8 _ 5 1 i0 (.int .u8 0) Try.underlying31 hi hz0 hz1 hz2 rfl _ _ [] xs rfl rfl HR3.out hsr HM1.out HM2.out hub ?_; clear hi hz0 hz1 hz2 hsr hub; intro v7 w4 hr4 hg4; rw [List.nil_append] at hr4; have hB4 := HB3.out.grown hg4 HB3.out.size (fun q e => (HR3.out.lt q e).1); have hN4 := Lib.hid (hN2.out.below hB4); have HU4 := Lib.hid (hu2.trans (hB4.mono hu2.size)); have HR4 := Lib.hid hr4; have hT4 := Lib.hid hB4.size; clear hB4 hg4 hr4 hu2 hN2 HR3 HB3 HS3))
    | (go_at_call 12; go_must (refine (SendX hN4.out 0 0 1 0 v7 xs HR4.out.reads HX.out.2.2 HXL.out).mono ?_; rintro e w5 ⟨h1, hN5, hb5⟩; rw [ES.out] at h1; subst h1; rw [EL.out] at hN5; have HN5 := Lib.hid (And.intro hN5 hb5); clear hN5 hb5)))
  have HO5 := Lib.hid (show Own1 w.heap.size w5 (w.heap.size + 1) xs by
    obtain ⟨hN5, hb5⟩ := HN5.out
    have s1 := hX1.out.size
    have s2 := hT1.out
    have s4 := hT4.out
    have s5 := hb5.size
    refine ⟨_, _, hN5, ?_, ?_, by simp⟩
    · rintro k ((hk | hk) | hk)
      · exact hk.elim
      · omega
      · omega
    · intro f hf
      rw [List.mem_singleton] at hf
      subst hf
      exact .inl ⟨rfl, rfl⟩)
  have HU5 := Lib.hid (show Below w.heap.size w w5 from HU4.out.trans (HN5.out.2.below (B := w.heap.size) (by
    rintro k (hk | hk)
    · exact hk.elim
    · omega) HU4.out.size))
  obtain ⟨S, hS⟩ : ∃ S, w.heap.size + 1 = S := ⟨_, rfl⟩
  rw [hS] at HO5
  rw [hS]
  clear hN4 HU4 HN5 hX1 hT1 hT4 HR4 hS
  go_wp2_with fail
  go_loopw [7] (fun j wr => ∃ i : Nat, j = .int .i64 i ∧ i ≤ la ∧ i ≤ 100 ∧ Own1 w.heap.size wr S xs ∧ Below w.heap.size w wr) (fun j _ => 100 - (intOf j).toNat)
  case atStart => exact ⟨0, rfl, by omega, by omega, HO5.out, HU5.out⟩
  case round =>
    obtain ⟨i, rfl, hi, hi2, hO, hb⟩ := hrel
    by_cases hlt : i < la ∧ i < 100
    · obtain ⟨h3, h4⟩ := hlt
      obtain ⟨z, hz⟩ : ∃ z, zs[i]? = some z := ⟨_, List.getElem?_eq_getElem (by rw [HA.out.len]; exact h3)⟩
      obtain ⟨b, off, rfl, hbl, hra, hok, hone, hrd⟩ := HA.out.at_ i z hz
      obtain ⟨a0, dv⟩ := z
      have HRA := Lib.hid (show wr.rangeAt b (off + i * 10) (rowA a0 dv).toList from range_below hra hb hbl)
      have h3' : (i : Int) < la := by omega
      have h4' : (i : Int) < 100 := by omega
      have HB := Lib.hid hb
      have HO := Lib.hid hO
      have HOK := Lib.hid (And.intro hok hone)
      have HZ1 := Lib.hid (rowA_one a0 dv hone)
      clear hO hb hra hok hone hrd hbl hz
      by_cases hk : a0.kind = 3 ∨ a0.kind = 4 ∨ a0.kind = 5
      · have HK := Lib.hid hk
        obtain ⟨kd, hkd⟩ : ∃ kd, a0.kind = kd := ⟨_, rfl⟩
        have HKD := Lib.hid hkd
        rw [hkd] at hk
        have hk1 : 3 ≤ kd := by omega
        have hk2 : kd ≤ 5 := by omega
        clear hk hkd
        go_wp2_with (first
          | ((with_reducible refine wpl_loadE rfl 52 (.tmp 49) rfl b (off + i * 10) ?_ (rowA a0 dv) _ HRA.out Try.underlying52 rfl (by kernel_rfl) ?_); rfl; clear HRA)
          | ((with_reducible refine wpl_allocAt rfl 52 rfl zero52 (by kernel_rfl) ?_); go_must (intro w6 hat6 hb6 hs6; clear hs6))
          | ((with_reducible refine wpl_storeR rfl 52 (.tmp 8) (.tmp 50) rfl rfl wr.heap.size 52 zero52 (rowA a0 dv) ?_ ?_ hat6 (by kernel_rfl) ?_ ?_ ?_); rfl; rfl; rfl; (exact HZ1.out); go_must (intro w7 hat7 hg7; have hb7 := below_grown hb6 hg7 hb6.size (Nat.le_refl _); have hc0 := hat7.cell 0; simp [rowA] at hc0; rw [HKD.out] at hc0; clear hat6 hg7 hb6))
          | ((with_reducible refine wpl_buildV rfl 49 #[(0, .const (.int .i64 2))] rfl #[(0, .int .i64 2)] ?_ (.agg (zeroNet 2)) (run_zeroNet _ _) ?_); go_must (simp [Act.eval]))
          | ((with_reducible refine wpl_boxAt rfl 49 (.tmp 60) rfl (zeroNet 2) ?_ ?_); rfl; go_must (intro w8 hat8 hb8 hs8; have hat78 := hat7.ext hb8; have HT8 := Lib.hid (And.intro hat8 (And.intro (hb7.trans (hb8.mono hb7.size)) hb7.size)); clear hat8 hb8 hs8 hc0 hat7 hb7))
          | ((with_reducible refine wpl_loadAt rfl 52 (.tmp 8) rfl wr.heap.size 52 (rowA a0 dv) hat78 _ Try.underlying52 rfl (by kernel_rfl) ?_ ?_); rfl)
          | (go_at_call 16; go_must (refine (turnAct HO.out HT8.out.2.1 HT8.out.2.2 HT8.out.1 HB.out.size HX.out.2.2 a0 dv HK.out HOK.out.1 HOK.out.2).mono ?_; rintro e w9 ⟨⟨r9, rfl⟩, hO9, hb9⟩; have HO9 := Lib.hid (And.intro hO9 hb9); clear hO9 hb9)))
        go_roundw
        case rel => exact ⟨i + 1, by go_num, by omega, by omega, HO9.out.1, (HB.out.trans (HT8.out.2.1.mono HB.out.size)).trans HO9.out.2⟩
        case measure => simp [intOf]; omega
      · obtain ⟨kd, hkd⟩ : ∃ kd, a0.kind = kd := ⟨_, rfl⟩
        have HKD := Lib.hid hkd
        rw [hkd] at hk
        have hk1 : kd < 3 ∨ (3 ≤ kd ∧ decide (kd ≤ 5) = false) := by
          by_cases h : kd < 3
          · exact .inl h
          · exact .inr ⟨by omega, decide_eq_false (by omega)⟩
        clear hk hkd
        rcases hk1 with hk1 | ⟨hk1, hk2⟩
        all_goals
          go_wp2_with (first
            | ((with_reducible refine wpl_loadE rfl 52 (.tmp 49) rfl b (off + i * 10) ?_ (rowA a0 dv) _ HRA.out Try.underlying52 rfl (by kernel_rfl) ?_); rfl; clear HRA)
            | ((with_reducible refine wpl_allocAt rfl 52 rfl zero52 (by kernel_rfl) ?_); go_must (intro w6 hat6 hb6 hs6; clear hs6))
            | ((with_reducible refine wpl_storeR rfl 52 (.tmp 8) (.tmp 50) rfl rfl wr.heap.size 52 zero52 (rowA a0 dv) ?_ ?_ hat6 (by kernel_rfl) ?_ ?_ ?_); rfl; rfl; rfl; (exact HZ1.out); go_must (intro w7 hat7 hg7; have HB7 := Lib.hid (below_grown hb6 hg7 hb6.size (Nat.le_refl _)); have hc0 := hat7.cell 0; simp [rowA] at hc0; rw [HKD.out] at hc0; clear hat6 hg7 hb6)))
          go_roundw
          case rel => exact ⟨i + 1, by go_num, by omega, by omega, HO.out.below HB7.out, HB.out.trans (HB7.out.mono HB.out.size)⟩
          case measure => simp [intOf]; omega
    · have HB := Lib.hid hb
      have HO := Lib.hid hO
      have hlt' : ¬ i < la ∨ (i < la ∧ ¬ i < 100) := by omega
      clear hlt hO hb
      have HL := Lib.hid (And.intro HX.out.2.1 HX.out.1)
      have HM : (¬ i < la → i = la) ∧ (¬ i < 100 → i = 100) := ⟨fun h => by omega, fun h => by omega⟩
      obtain ⟨HM1', HM2'⟩ := HM
      have HMA := Lib.hid HM1'
      have HMB := Lib.hid HM2'
      clear HM1' HM2'
      have hcase : i = la ∨ (i < la ∧ i = 100) := hlt'.imp (fun h => HMA.out h) (fun h => ⟨h.1, HMB.out h.2⟩)
      clear hlt'
      rcases hcase with rfl | ⟨h3, rfl⟩
      all_goals
        obtain ⟨X, fs, hN, hX, hon, hne⟩ := HO.out
        have HON := Lib.hid (And.intro hon (And.intro hne hN.ok.1))
        have PL := Lib.hid (ListX hN)
        clear hN hX hon hne X
        go_upto_region 13 with (go_at_call 18; go_must (refine PL.out.mono ?_; clear PL; rintro e w1 ⟨v, zl, rfl, ho, hz, hb1⟩; have HL1 := Lib.hid (And.intro ho hz); have HB1 := Lib.hid (HB.out.trans (hb1.mono HB.out.size)); clear ho hz hb1))
        obtain ⟨p1, c1, rfl, _⟩ := HL1.out.1.shape
        obtain ⟨m, hm⟩ : ∃ m, zl.length = m := ⟨_, rfl⟩
        have hm1 : 1 ≤ m ∧ m ≤ 1024 := by
          have h1 := congrArg List.length HL1.out.2
          rw [List.length_map, hm] at h1
          have h2 := HON.out.2
          omega
        rw [hm]
        have HMZ := Lib.hid hm
        clear hm
        obtain ⟨h1m, hm4⟩ := hm1
        have h1m' : (1 : Int) ≤ m := by omega
        go_wp2_with fail
        obtain ⟨w2, hw2⟩ : ∃ w2, w2 = w1 := ⟨_, rfl⟩
        have HW2 := Lib.hid hw2
        clear hw2
        go_loopw [10] (fun j wr => ∃ k : Nat, j = .int .i64 k ∧ k ≤ m ∧ Below w2.heap.size w2 wr) (fun j _ => m - (intOf j).toNat)
        case atStart => exact ⟨0, rfl, by omega, by rw [← HW2.out]; exact Below.refl _ _⟩
        case round =>
          obtain ⟨k2, rfl, hk2, hbl⟩ := hrel
          obtain ⟨wo, rfl⟩ : ∃ wo : World, wo = wr := ⟨_, rfl⟩
          have HBL := Lib.hid hbl
          clear hbl
          by_cases hlt : k2 < m
          · obtain ⟨⟨f, d⟩, hz3⟩ : ∃ z, zl[k2]? = some z := ⟨_, List.getElem?_eq_getElem (by rw [HMZ.out]; exact hlt)⟩
            have HOF := Lib.hid (once_offs (HON.out.1 f (by
              rw [← HL1.out.2]
              exact List.mem_map.2 ⟨(f, d), List.mem_of_getElem? hz3, rfl⟩)))
            have ho : OwnF (fun q => _) wo (.slice p1 zl.length c1) zl := HL1.out.1.below (by rw [← HW2.out]; exact HBL.out)
            obtain ⟨g1, k1, e1, hg1, _, _, hra1, h81⟩ := ho.elem k2 _ hz3
            rw [HMZ.out] at e1
            cases e1
            obtain ⟨pd, cd, rfl, _⟩ : ∃ pd cd, d = .slice pd f.bytes.length cd ∧ True := by obtain ⟨pd, cd, e, _⟩ := h81.1.reads; exact ⟨pd, cd, e, trivial⟩
            have HFL := Lib.hid (show f.bytes.length = l by rw [HOF.out.1, HX.out.2.1])
            rw [HFL.out] at hra1
            have HRA := Lib.hid (fun u (hu : Below wo.heap.size wo u) => And.intro (show u.cell? ⟨g1, k2 * 6 + 4, none⟩ = some (.slice pd l cd) from range_below (b := g1) (off := k2 * 6) hra1 hu hg1 4 _ rfl) (show u.cell? ⟨g1, k2 * 6 + 5, none⟩ = some (.bool f.turned) from range_below (b := g1) (off := k2 * 6) hra1 hu hg1 5 _ rfl))
            have H81 := Lib.hid h81
            have hlt' : (k2 : Int) < m := by omega
            clear hz3 ho hra1 h81 hg1
            go_wp2_with fail
            go_loopw [11, 12] (fun jo j wr => ∃ (k o : Nat), jo = .int .i64 o ∧ j = .int .i64 k ∧ k ≤ l ∧ o ≤ k ∧ o = offs f.bytes xs k ∧ Below wo.heap.size wo wr) (fun _ j _ => l - (intOf j).toNat)
            case atStart => exact ⟨0, 0, rfl, rfl, by omega, by omega, rfl, Below.refl _ _⟩
            case round =>
              obtain ⟨k, o, rfl, rfl, hk, hok, ho, hbl3⟩ := hrel
              have HO3 := Lib.hid (And.intro ho hbl3)
              clear ho hbl3
              have hc4 := (HRA.out wr HO3.out.2).1
              by_cases hkl : k < l
              · have h8 := H81.out.below HO3.out.2
                obtain ⟨gd, rfl, _, _, hgd⟩ := h8.1.form (by rw [HFL.out]; omega)
                have cb := (Row.cell (c := cd) h8.1 k (by rw [HFL.out]; exact hkl)).1
                have hub : Below w.heap.size w wr := ((HB1.out.trans (show Below w.heap.size w1 wo by have := HBL.out; rw [HW2.out] at this; exact this.mono HB1.out.size)).trans (HO3.out.2.mono (Nat.le_trans HB1.out.size (by have := HBL.out.size; rw [HW2.out] at this; exact this))))
                obtain ⟨bb, boff, rfl, hbb, cx⟩ : ∃ bb off, p = some ⟨bb, off, none⟩ ∧ bb < wr.heap.size ∧ wr.cell? ⟨bb, off + k, none⟩ = some (.int .u8 (xs.getD k 0)) := by
                  obtain ⟨p', c', e, q1, q2, q3, q4⟩ := HX.out.1.below hub
                  cases e
                  obtain ⟨bb, off, rfl, hbb, hcell⟩ := q4 (by rw [HX.out.2.1]; omega)
                  exact ⟨bb, off, rfl, hbb, hcell k (by rw [HX.out.2.1]; exact hkl)⟩
                obtain ⟨x, hx⟩ : ∃ x, f.bytes.getD k 0 = x := ⟨_, rfl⟩
                obtain ⟨y, hy⟩ : ∃ y, xs.getD k 0 = y := ⟨_, rfl⟩
                rw [hx] at cb
                rw [hy] at cx
                have HXY := Lib.hid (And.intro hx hy)
                have hkl' : (k : Int) < l := by omega
                have lg : g1 < wr.heap.size := by
                  rcases Nat.lt_or_ge g1 wr.heap.size with h | h
                  · exact h
                  · exfalso
                    have e : wr.heap[g1]? = none := Array.getElem?_eq_none h
                    simp [World.cell?, e] at hc4
                clear hx hy h8 hub
                obtain ⟨ne, hne⟩ : ∃ ne, (x != y) = ne := ⟨_, rfl⟩
                go_upto_region 20 with fail
                obtain ⟨w0, rfl⟩ : ∃ w0, w0 = wr := ⟨_, rfl⟩
                refine Mono.wp_region_mono [some 88, some 89, some 90, some 91, some 92, some 93, some 94, some 95, some 96, some 97, some 98, some 99, some 100] [Mono.isV (.slice (some ⟨g1, 0, none⟩) m c1), Mono.isV (.int .i64 k2), Mono.isV (.pointer (some ⟨g1, k2 * 6, none⟩)), Mono.isV (.pointer (some ⟨g1, k2 * 6 + 4, none⟩)), Mono.isV (.slice (some ⟨gd, 0, none⟩) l cd), Mono.isV (.int .i64 k), Mono.isV (.pointer (some ⟨gd, k, none⟩)), Mono.isV (.int .u8 x), Mono.isV (.slice (some ⟨bb, boff, none⟩) l c), Mono.isV (.int .i64 k), Mono.isV (.pointer (some ⟨bb, boff + k, none⟩)), Mono.isV (.int .u8 y), Mono.isV (.bool ne)] (by kernel_rfl) (by kernel_rfl) ?_ ?_
                · simp only [Mono.OpGoals, and_true]
                  refine ⟨?_, ?_, ?_, ?_, ?_, ?_, ?_, ?_, ?_, ?_, ?_, ?_, ?_⟩
                  · intro a u hbu hsu hdu
                    have hc4 := (hbu.cell (p := ⟨g1, k2 * 6 + 4, none⟩) lg).trans hc4; have cb := (hbu.cell (p := ⟨gd, k, none⟩) hgd).trans cb; have cx := (hbu.cell (p := ⟨bb, boff + k, none⟩) hbb).trans cx
                    refine Mono.if_want rfl ?_
                    exact Mono.ok_move (.tmp 9) rfl (hsu 9 (by decide))
                  · intro a u hbu hsu hdu
                    have hc4 := (hbu.cell (p := ⟨g1, k2 * 6 + 4, none⟩) lg).trans hc4; have cb := (hbu.cell (p := ⟨gd, k, none⟩) hgd).trans cb; have cx := (hbu.cell (p := ⟨bb, boff + k, none⟩) hbb).trans cx
                    refine Mono.if_want rfl ?_
                    exact Mono.ok_move (.tmp 10) rfl (hsu 10 (by decide))
                  · intro a u hbu hsu hdu
                    have hc4 := (hbu.cell (p := ⟨g1, k2 * 6 + 4, none⟩) lg).trans hc4; have cb := (hbu.cell (p := ⟨gd, k, none⟩) hgd).trans cb; have cx := (hbu.cell (p := ⟨bb, boff + k, none⟩) hbb).trans cx
                    refine Mono.if_want rfl ?_
                    have z88 : a.eval (.tmp 88) = .slice (some ⟨g1, 0, none⟩) m c1 := Mono.dep_at hdu (i := 0) (d := 88) rfl rfl rfl
                    simp [Act.eval] at z88
                    have z89 : a.eval (.tmp 89) = .int .i64 k2 := Mono.dep_at hdu (i := 1) (d := 89) rfl rfl rfl
                    simp [Act.eval] at z89
                    exact Mono.ok_val (.pointer (some ⟨g1, k2 * 6, none⟩)) (by simp [execOp, z88, z89, go_sem, hc4, cb, cx, hlt', hkl', hne]) rfl
                  · intro a u hbu hsu hdu
                    have hc4 := (hbu.cell (p := ⟨g1, k2 * 6 + 4, none⟩) lg).trans hc4; have cb := (hbu.cell (p := ⟨gd, k, none⟩) hgd).trans cb; have cx := (hbu.cell (p := ⟨bb, boff + k, none⟩) hbb).trans cx
                    refine Mono.if_want rfl ?_
                    have z90 : a.eval (.tmp 90) = .pointer (some ⟨g1, k2 * 6, none⟩) := Mono.dep_at hdu (i := 2) (d := 90) rfl rfl rfl
                    simp [Act.eval] at z90
                    exact Mono.ok_val (.pointer (some ⟨g1, k2 * 6 + 4, none⟩)) (by simp [execOp, z90, go_sem, hc4, cb, cx, hlt', hkl', hne]) rfl
                  · intro a u hbu hsu hdu
                    have hc4 := (hbu.cell (p := ⟨g1, k2 * 6 + 4, none⟩) lg).trans hc4; have cb := (hbu.cell (p := ⟨gd, k, none⟩) hgd).trans cb; have cx := (hbu.cell (p := ⟨bb, boff + k, none⟩) hbb).trans cx
                    refine Mono.if_want rfl ?_
                    have z91 : a.eval (.tmp 91) = .pointer (some ⟨g1, k2 * 6 + 4, none⟩) := Mono.dep_at hdu (i := 3) (d := 91) rfl rfl rfl
                    simp [Act.eval] at z91
                    exact Mono.ok_val (.slice (some ⟨gd, 0, none⟩) l cd) (by simp [execOp, z91, go_sem, hc4, cb, cx, hlt', hkl', hne]) rfl
                  · intro a u hbu hsu hdu
                    have hc4 := (hbu.cell (p := ⟨g1, k2 * 6 + 4, none⟩) lg).trans hc4; have cb := (hbu.cell (p := ⟨gd, k, none⟩) hgd).trans cb; have cx := (hbu.cell (p := ⟨bb, boff + k, none⟩) hbb).trans cx
                    refine Mono.if_want rfl ?_
                    exact Mono.ok_move (.tmp 12) rfl (hsu 12 (by decide))
                  · intro a u hbu hsu hdu
                    have hc4 := (hbu.cell (p := ⟨g1, k2 * 6 + 4, none⟩) lg).trans hc4; have cb := (hbu.cell (p := ⟨gd, k, none⟩) hgd).trans cb; have cx := (hbu.cell (p := ⟨bb, boff + k, none⟩) hbb).trans cx
                    refine Mono.if_want rfl ?_
                    have z92 : a.eval (.tmp 92) = .slice (some ⟨gd, 0, none⟩) l cd := Mono.dep_at hdu (i := 4) (d := 92) rfl rfl rfl
                    simp [Act.eval] at z92
                    have z93 : a.eval (.tmp 93) = .int .i64 k := Mono.dep_at hdu (i := 5) (d := 93) rfl rfl rfl
                    simp [Act.eval] at z93
                    exact Mono.ok_val (.pointer (some ⟨gd, k, none⟩)) (by simp [execOp, z92, z93, go_sem, hc4, cb, cx, hlt', hkl', hne]) rfl
                  · intro a u hbu hsu hdu
                    have hc4 := (hbu.cell (p := ⟨g1, k2 * 6 + 4, none⟩) lg).trans hc4; have cb := (hbu.cell (p := ⟨gd, k, none⟩) hgd).trans cb; have cx := (hbu.cell (p := ⟨bb, boff + k, none⟩) hbb).trans cx
                    refine Mono.if_want rfl ?_
                    have z94 : a.eval (.tmp 94) = .pointer (some ⟨gd, k, none⟩) := Mono.dep_at hdu (i := 6) (d := 94) rfl rfl rfl
                    simp [Act.eval] at z94
                    exact Mono.ok_val (.int .u8 x) (by simp [execOp, z94, go_sem, hc4, cb, cx, hlt', hkl', hne]) rfl
                  · intro a u hbu hsu hdu
                    have hc4 := (hbu.cell (p := ⟨g1, k2 * 6 + 4, none⟩) lg).trans hc4; have cb := (hbu.cell (p := ⟨gd, k, none⟩) hgd).trans cb; have cx := (hbu.cell (p := ⟨bb, boff + k, none⟩) hbb).trans cx
                    refine Mono.if_want rfl ?_
                    exact Mono.ok_move (.tmp 0) rfl (hsu 0 (by decide))
                  · intro a u hbu hsu hdu
                    have hc4 := (hbu.cell (p := ⟨g1, k2 * 6 + 4, none⟩) lg).trans hc4; have cb := (hbu.cell (p := ⟨gd, k, none⟩) hgd).trans cb; have cx := (hbu.cell (p := ⟨bb, boff + k, none⟩) hbb).trans cx
                    refine Mono.if_want rfl ?_
                    exact Mono.ok_move (.tmp 12) rfl (hsu 12 (by decide))
                  · intro a u hbu hsu hdu
                    have hc4 := (hbu.cell (p := ⟨g1, k2 * 6 + 4, none⟩) lg).trans hc4; have cb := (hbu.cell (p := ⟨gd, k, none⟩) hgd).trans cb; have cx := (hbu.cell (p := ⟨bb, boff + k, none⟩) hbb).trans cx
                    refine Mono.if_want rfl ?_
                    have z96 : a.eval (.tmp 96) = .slice (some ⟨bb, boff, none⟩) l c := Mono.dep_at hdu (i := 8) (d := 96) rfl rfl rfl
                    simp [Act.eval] at z96
                    have z97 : a.eval (.tmp 97) = .int .i64 k := Mono.dep_at hdu (i := 9) (d := 97) rfl rfl rfl
                    simp [Act.eval] at z97
                    exact Mono.ok_val (.pointer (some ⟨bb, boff + k, none⟩)) (by simp [execOp, z96, z97, go_sem, hc4, cb, cx, hlt', hkl', hne]) rfl
                  · intro a u hbu hsu hdu
                    have hc4 := (hbu.cell (p := ⟨g1, k2 * 6 + 4, none⟩) lg).trans hc4; have cb := (hbu.cell (p := ⟨gd, k, none⟩) hgd).trans cb; have cx := (hbu.cell (p := ⟨bb, boff + k, none⟩) hbb).trans cx
                    refine Mono.if_want rfl ?_
                    have z98 : a.eval (.tmp 98) = .pointer (some ⟨bb, boff + k, none⟩) := Mono.dep_at hdu (i := 10) (d := 98) rfl rfl rfl
                    simp [Act.eval] at z98
                    exact Mono.ok_val (.int .u8 y) (by simp [execOp, z98, go_sem, hc4, cb, cx, hlt', hkl', hne]) rfl
                  · intro a u hbu hsu hdu
                    have hc4 := (hbu.cell (p := ⟨g1, k2 * 6 + 4, none⟩) lg).trans hc4; have cb := (hbu.cell (p := ⟨gd, k, none⟩) hgd).trans cb; have cx := (hbu.cell (p := ⟨bb, boff + k, none⟩) hbb).trans cx
                    refine Mono.if_want rfl ?_
                    have z95 : a.eval (.tmp 95) = .int .u8 x := Mono.dep_at hdu (i := 7) (d := 95) rfl rfl rfl
                    simp [Act.eval] at z95
                    have z99 : a.eval (.tmp 99) = .int .u8 y := Mono.dep_at hdu (i := 11) (d := 99) rfl rfl rfl
                    simp [Act.eval] at z99
                    exact Mono.ok_val (.bool ne) (by simp [execOp, z95, z99, go_sem, hc4, cb, cx, hlt', hkl', hne]) rfl
                intro u hu
                simp only [Mono.Fin]
                rintro _ rfl _ rfl _ rfl _ rfl _ rfl _ rfl _ rfl _ rfl _ rfl _ rfl _ rfl _ rfl _ rfl
                simp [Act.put]
                clear hc4 cb cx
                have HU := Lib.hid hu
                have HNE := Lib.hid hne
                clear hu hne
                cases ne with
                | true =>
                  go_wp2_with fail
                  go_roundw
                  case rel => exact ⟨k + 1, o + 1, by go_num, by go_num, by omega, by omega, by
                    have h1 : f.bytes.getD k 0 ≠ xs.getD k 0 := by rw [HXY.out.1, HXY.out.2]; simpa using HNE.out
                    rw [offs, ← HO3.out.1, if_neg h1], HO3.out.2.trans (HU.out.mono HO3.out.2.size)⟩
                  case measure => simp [intOf]; omega
                | false =>
                  go_wp2_with fail
                  go_roundw
                  case rel => exact ⟨k + 1, o, rfl, by go_num, by omega, by omega, by
                    have h1 : f.bytes.getD k 0 = xs.getD k 0 := by rw [HXY.out.1, HXY.out.2]; simpa using HNE.out
                    rw [offs, ← HO3.out.1, if_pos h1]; rfl, HO3.out.2.trans (HU.out.mono HO3.out.2.size)⟩
                  case measure => simp [intOf]; omega
              · obtain rfl : k = l := by omega
                have hc5 := (HRA.out wr HO3.out.2).2
                have hoo : o = if f.turned then 1 else 0 := by rw [HO3.out.1, ← HOF.out.2, HX.out.2.1]
                obtain ⟨tu, htu⟩ : ∃ tu, f.turned = tu := ⟨_, rfl⟩
                rw [htu] at hoo hc5
                clear htu hkl hk hok
                cases tu with
                | true =>
                  obtain rfl : o = 1 := hoo
                  go_wp2_with fail
                  go_roundw
                  case rel => exact ⟨k2 + 1, by go_num, by omega, HBL.out.trans (HO3.out.2.mono HBL.out.size)⟩
                  case measure => simp [intOf]; omega
                | false =>
                  obtain rfl : o = 0 := hoo
                  go_wp2_with fail
                  go_roundw
                  case rel => exact ⟨k2 + 1, by go_num, by omega, HBL.out.trans (HO3.out.2.mono HBL.out.size)⟩
                  case measure => simp [intOf]; omega
          · obtain rfl : k2 = m := by omega
            clear hlt
            go_wp2_with fail
            go_ret
            exact ⟨by simp, HB1.out.trans (show Below w.heap.size w1 wo by have := HBL.out; rw [HW2.out] at this; exact this.mono HB1.out.size)⟩
end Go.Proofs.Ytmdhpjbahenbhaa.Net
