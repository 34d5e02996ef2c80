/-
  Contract: own (a message that shares nothing).
-/
import Derived.Test.YtcekkppjalipfaaAvpsF
import Derived.Test.YtcekkppjalipfaaMsg1
namespace Go.Proofs.Ytcekkppjalipfaa.Avp
open Go.RowKit Mem Cells Avps Wire Ops
set_option linter.unusedVariables false
set_option linter.unusedSimpArgs false

def zeroM : Array Value := #[.bool false, .bool false, .bool false, .bool false, .int .u32 0, .int .u32 0, .int .u32 0, .int .u32 0, .slice none 0 0]
theorem noByteM (m : M) (p : Option Addr) (n c : Nat) : NoByte (rowM m (.slice p n c)) := by
  intro j x h
  simp only [rowM] at h
  match j with
  | 0 | 1 | 2 | 3 | 4 | 5 | 6 | 7 | 8 => simp at h
  | j + 9 => simp at h
theorem noByteZ : NoByte zeroM := by
  intro j x h
  simp only [zeroM] at h
  match j with
  | 0 | 1 | 2 | 3 | 4 | 5 | 6 | 7 | 8 => simp at h
  | j + 9 => simp at h
/-- What own answers. -/
def OwnIs (w : World) (m : M) (e : Ending) (w' : World) : Prop := ∃ p n c, e = .returned (.agg (rowM m (.slice p n c))) ∧ OwnL 60 w.heap.size w' (.slice p n c) m.avps ∧ Below w.heap.size w w'
set_option maxRecDepth 100000 in
set_option maxHeartbeats 1600000 in
theorem own (m : M) (p : Option Addr) (c : Nat) (w : World) (hr : ReadsL w (.slice p m.avps.length c) m.avps) (hd : ∀ a ∈ m.avps, a.data.length ≤ 140737488355328) : Calls Try.prog 11 #[.agg (rowM m (.slice p m.avps.length c))] w (OwnIs w { m with avps := m.avps.take 200 }) := by
  obtain ⟨al, hal⟩ : ∃ al, m.avps = al := ⟨_, rfl⟩
  have hm : ({ m with avps := m.avps.take 200 } : M) = { m with avps := al.take 200 } := by rw [hal]
  rw [hm]
  obtain ⟨p', c', e', k1, k2⟩ := hr.shape
  cases e'
  have hmax : m.avps.length ≤ 9223372036854775807 := by unfold maxLen at k2; omega
  have HR := Lib.hid hr
  have HD := Lib.hid hd
  have HAL := Lib.hid hal
  have HNB := Lib.hid (fun p n c => noByteM m p n c)
  obtain ⟨len, hlen⟩ : ∃ len, m.avps.length = len := ⟨_, rfl⟩
  have hall : al.length = len := by rw [← hal, hlen]
  have HALL := Lib.hid hall
  rw [hlen] at HR k1 hmax
  rw [hlen]
  rw [hal] at HR HD
  clear hr hd hm hal hlen hall
  go_enter Try.func11, Try.ntmps11
  go_wp2_with (first
    | ((with_reducible refine wpl_boxAt rfl 25 (.tmp 0) rfl (rowM m (.slice p len c)) ?_ ?_); rfl; go_must (intro w1 hat1 hb1 hs1; have HS1 := Lib.hid hs1; clear hs1))
    | ((with_reducible refine wpl_allocAt rfl 25 rfl zeroM (by kernel_rfl) ?_); go_must (intro w2 hat2 hb2 hs2; have HS2 := Lib.hid hs2; clear hs2)))
  have hA1 := hat1.ext hb2
  have hbw := hb1.trans (hb2.mono hb1.size)
  have hg12 : w.heap.size < w1.heap.size := by have := HS1.out; omega
  have hg2 := hat2.lt
  clear hat1 hb1
  go_wp2_with fail
  go_loopw [3, 4] (fun u i wr => ∃ k : Nat, i = .int .i64 k ∧ k ≤ len ∧ k ≤ 200 ∧ OwnL 60 w2.heap.size wr u (al.take k) ∧ Below w2.heap.size w2 wr) (fun _ i _ => len - (intOf i).toNat)
  case atStart => exact ⟨0, rfl, by omega, by omega, OwnL.nil _ _ _, Below.refl _ _⟩
  case round =>
    obtain ⟨k, rfl, hk, h200, hown, hbl⟩ := hrel
    have c8 := (hA1.ext hbl).cell 8
    simp [rowM] at c8
    by_cases hlt : k < len
    · by_cases hk200 : k < 200
      · have hel := (HR.out.below (hbw.trans (hbl.mono hbw.size))).elem k (by rw [HALL.out]; exact hlt)
        rw [HALL.out] at hel
        obtain ⟨x, hx1, hx2, b, off, c', pd, nd, hv, _, _, hltb, hra, hrd⟩ := hel
        cases hv
        obtain ⟨acc, hacc⟩ : ∃ acc, al.take k = acc := ⟨_, rfl⟩
        rw [hacc] at hown
        have hal : acc.length ≤ 200 := by rw [← hacc, List.length_take]; omega
        obtain ⟨pl, cl, rfl, q1, q2⟩ := hown.reads.shape
        have HA := Lib.hid hacc
        have HX := Lib.hid hx1
        have HRA := Lib.hid hra
        have hdx := HD.out x hx2
        have hwl := hbl.size
        have K1 : ([] : List Int).length + x.data.length ≤ maxLen := by simp [maxLen]; omega
        have K2 : (([] : List Int).length + x.data.length) * 1 ≤ 140737488355328 := by simp; omega
        have K4 : acc.length + 1 ≤ maxLen := by simp [maxLen]; omega
        have K5 : (acc.length + 1) * 40 ≤ 140737488355328 := by omega
        clear hacc hx1 hx2 hra
        go_wp2_with (first
          | ((with_reducible refine wpl_loadE rfl 60 (.tmp 20) rfl b (off + k * 5) ?_ (row x (.slice pd x.data.length nd)).toArray _ HRA.out Try.underlying60 rfl (by kernel_rfl) ?_); rfl; clear HRA)
          | ((with_reducible refine wpl_allocAt rfl 60 rfl zeroRow (by kernel_rfl) ?_); go_must (intro u1 hatu1 hbu1 hsu1; have HSu1 := Lib.hid hsu1; clear hsu1))
          | ((with_reducible refine wpl_storeR rfl 60 (.tmp 5) (.tmp 21) rfl rfl wr.heap.size 60 zeroRow (row x (.slice pd x.data.length nd)).toArray ?_ ?_ hatu1 (by kernel_rfl) ?_ ?_ ?_); rfl; rfl; rfl; simp [row, Value.oneCell']; go_must (intro u2 hatu2 hgu2; have hbu2 := hbu1.grown hgu2 hbu1.size (fun q e => by cases e; exact Nat.le_refl _); have hlt2 := hatu2.lt; clear hatu1 hgu2 hbu1))
          | ((with_reducible refine wpl_empty rfl 26 5 rfl .u8 (fun _ => by kernel_rfl) ?_); go_must (intro u3 hown3 hb3 hs3; have HS3 := Lib.hid hs3; have hb3' := hbu2.trans (hb3.mono hbu2.size); have hat3 := hatu2.ext hb3; have c4 := hat3.cell 4; simp [row] at c4; have hrd3 := hrd.below hb3'; clear hatu2 hbu2 hs3))
          | (at_builtin; have _t := hown3; clear _t; go_must (obtain ⟨i0, hi, hz0, hz1, hz2⟩ := info_parts info5; refine wpl_append rfl (.tmp 22) (.tmp 24) 26 rfl .u8 u2.heap.size 5 1 i0 (.int .u8 0) Try.underlying26 hi hz0 hz1 hz2 rfl (.slice (some ⟨u2.heap.size, 0, none⟩) 0 0) _ [] x.data rfl rfl hown3 hrd3 K1 K2 hb3.size ?_; clear hi hz0 hz1 hz2; intro v4 u4 hv4 hg4; rw [List.nil_append] at hv4; obtain ⟨p4, c4', rfl, kk1, kk2, kk3, kk4⟩ := hv4.reads; have hat4 := hat3.grown (k := u2.heap.size) hg4 (Nat.ne_of_lt hlt2); have hb4 := hb3'.grown hg4 hb3'.size (fun q e => by have e' : u2.heap.size = q := Option.some.inj e; omega); clear hown3 hrd3 hat3 hb3' hb3 c4 kk3 kk4 hg4))
          | ((with_reducible refine wpl_storeC rfl 26 (.tmp 26) (.tmp 25) rfl rfl wr.heap.size 4 60 (row x (.slice pd x.data.length nd)).toArray (row x (.slice p4 x.data.length c4')).toArray (.slice p4 x.data.length c4') ?_ ?_ hat4 ?_ (by kernel_rfl) ?_ ?_ ?_); rfl; rfl; exact (show (4 : Nat) < 5 by decide); rfl; rfl; go_must (intro u5 hatu5 hgu5; have hb5 := hb4.grown hgu5 hb4.size (fun q e => by cases e; exact Nat.le_refl _); have hd5 := reads_grown hv4.reads hgu5 (fun h0 q hq e => by obtain ⟨g', e1, _, e2, _⟩ := hv4.form h0; rw [e1] at e; have e3 : g' = q := Option.some.inj e; have e4 : wr.heap.size = q := Option.some.inj hq; omega); have hap5 : Apart (.slice pl acc.length cl) (x, .slice p4 x.data.length c4') := (fun h0 q hq e => by obtain ⟨g', e1, _, e2, _⟩ := hv4.form h0; have h1 := (hown.lt q hq).2; rw [show (x, Value.slice p4 x.data.length c4').2 = .slice p4 x.data.length c4' from rfl, e1] at e; have e3 : g' = q := Option.some.inj e; omega); have hown5 := hown.below hb5; clear hat4 hb4 hv4 hgu5))
          | ((with_reducible refine wpl_loadAt rfl 60 (.tmp 5) rfl wr.heap.size 60 (row x (.slice p4 x.data.length c4')).toArray hatu5 _ Try.underlying60 rfl (by kernel_rfl) ?_ ?_); rfl)
          | (obtain ⟨i60, z60, i1, i2, i3, i4, i5⟩ := info41; (with_reducible refine wpl_push 23 60 40 29 (.tmp 28) (.tmp 27) rfl rfl rfl rfl rfl x (.slice p4 x.data.length c4') ?_ (build22 _ _) w2.heap.size i60 z60 Try.underlying23 i1 i2 i3 i4 i5 (.slice pl acc.length cl) acc ?_ ?_ hown5 hd5 hap5 K4 K5 ?_ ?_); rfl; exact fun _ => rfl; exact fun _ => rfl; (have := hb5.size; omega); go_must (clear i1 i2 i3 i4 i5; intro v6 w6 hv6 hg6; have hbl6 := (hbl.trans (hb5.mono hbl.size)).grown hg6 (by have := hb5.size; omega) (fun q e => (hown5.lt q e).1); clear hown5 hd5 hap5 hatu5 hg6)))
        go_roundw
        case rel =>
          have hk2 : k < al.length := by rw [HALL.out]; exact hlt
          have hnew : al.take (k + 1) = acc ++ [x] := by
            rw [List.take_succ_eq_append_getElem hk2, HA.out]
            have := HX.out
            rw [List.getElem?_eq_getElem hk2] at this
            rw [Option.some.inj this]
          exact ⟨k + 1, by go_num, by omega, by omega, by rw [hnew]; exact hv6, hbl6⟩
        case measure => simp [intOf]; omega
      · have hke : al.take k = al.take 200 := by congr 1; omega
        rw [hke] at hown
        clear hke
        obtain rfl : k = 200 := by omega
        obtain ⟨acc, hacc⟩ : ∃ acc, al.take 200 = acc := ⟨_, rfl⟩
        rw [hacc] at hown ⊢
        have HACC := Lib.hid hacc
        clear hacc
        obtain ⟨pl, cl, rfl, q1, q2⟩ := hown.reads.shape
        have hA := hA1.ext hbl
        have hZ := hat2.ext hbl
        have hbx := hbw.trans (hbl.mono hbw.size)
        clear hA1 hat2 hbw
        go_wp2_with (first
          | ((with_reducible refine wpl_storeC rfl 23 (.tmp 32) (.tmp 31) rfl rfl w.heap.size 8 25 (rowM m (.slice p len c)) (rowM m (.slice pl acc.length cl)) (.slice pl acc.length cl) ?_ ?_ hA ?_ (by kernel_rfl) ?_ ?_ ?_); rfl; rfl; exact (show (8 : Nat) < 9 by decide); rfl; rfl; go_must (intro u7 hatu7 hgu7; have hown7 := hown.kept hgu7 (Nat.lt_trans hg12 hg2) hA (noByteM m _ _ _); have hZ7 := hZ.grown (k := w.heap.size) hgu7 (Nat.ne_of_gt hg12); have hb7 := hbx.grown hgu7 hbx.size (fun q e => by cases e; exact Nat.le_refl _); clear hA hZ hown hbx hgu7))
          | ((with_reducible refine wpl_loadAt rfl 25 (.tmp 1) rfl w.heap.size 25 (rowM m (.slice pl acc.length cl)) hatu7 _ Try.underlying25 rfl (by kernel_rfl) ?_ ?_); rfl)
          | ((with_reducible refine wpl_storeR rfl 25 (.tmp 2) (.tmp 33) rfl rfl w1.heap.size 25 zeroM (rowM m (.slice pl acc.length cl)) ?_ ?_ hZ7 (by kernel_rfl) ?_ ?_ ?_); rfl; rfl; rfl; simp [rowM, Value.oneCell']; go_must (intro u8 hatu8 hgu8; have hown8 := hown7.kept hgu8 hg2 hZ7 noByteZ; have hb8 := hb7.grown hgu8 hb7.size (fun q e => by cases e; exact Nat.le_of_lt hg12); clear hZ7 hown7 hb7 hgu8)))
        exact end_cell (fn := Try.f11) (p := 2) (ty := 25) (by kernel_rfl) rfl hatu8 Try.underlying25 rfl (by kernel_rfl) rfl ⟨_, _, _, rfl, (show OwnL 60 w.heap.size u8 _ (al.take 200) by rw [HACC.out]; exact hown8.mono (Nat.le_trans (Nat.le_of_lt hg12) (Nat.le_of_lt hg2))), hb8⟩
    · have hke : al.take k = al.take 200 := by
        have := HALL.out
        rw [List.take_of_length_le (by omega), List.take_of_length_le (by omega)]
      rw [hke] at hown
      clear hke
      obtain ⟨acc, hacc⟩ : ∃ acc, al.take 200 = acc := ⟨_, rfl⟩
      rw [hacc] at hown ⊢
      have HACC := Lib.hid hacc
      clear hacc
      obtain ⟨pl, cl, rfl, q1, q2⟩ := hown.reads.shape
      have hA := hA1.ext hbl
      have hZ := hat2.ext hbl
      have hbx := hbw.trans (hbl.mono hbw.size)
      clear hA1 hat2 hbw
      go_wp2_with (first
        | ((with_reducible refine wpl_storeC rfl 23 (.tmp 32) (.tmp 31) rfl rfl w.heap.size 8 25 (rowM m (.slice p len c)) (rowM m (.slice pl acc.length cl)) (.slice pl acc.length cl) ?_ ?_ hA ?_ (by kernel_rfl) ?_ ?_ ?_); rfl; rfl; exact (show (8 : Nat) < 9 by decide); rfl; rfl; go_must (intro u7 hatu7 hgu7; have hown7 := hown.kept hgu7 (Nat.lt_trans hg12 hg2) hA (noByteM m _ _ _); have hZ7 := hZ.grown (k := w.heap.size) hgu7 (Nat.ne_of_gt hg12); have hb7 := hbx.grown hgu7 hbx.size (fun q e => by cases e; exact Nat.le_refl _); clear hA hZ hown hbx hgu7))
        | ((with_reducible refine wpl_loadAt rfl 25 (.tmp 1) rfl w.heap.size 25 (rowM m (.slice pl acc.length cl)) hatu7 _ Try.underlying25 rfl (by kernel_rfl) ?_ ?_); rfl)
        | ((with_reducible refine wpl_storeR rfl 25 (.tmp 2) (.tmp 33) rfl rfl w1.heap.size 25 zeroM (rowM m (.slice pl acc.length cl)) ?_ ?_ hZ7 (by kernel_rfl) ?_ ?_ ?_); rfl; rfl; rfl; simp [rowM, Value.oneCell']; go_must (intro u8 hatu8 hgu8; have hown8 := hown7.kept hgu8 hg2 hZ7 noByteZ; have hb8 := hb7.grown hgu8 hb7.size (fun q e => by cases e; exact Nat.le_of_lt hg12); clear hZ7 hown7 hb7 hgu8)))
      exact end_cell (fn := Try.f11) (p := 2) (ty := 25) (by kernel_rfl) rfl hatu8 Try.underlying25 rfl (by kernel_rfl) rfl ⟨_, _, _, rfl, (show OwnL 60 w.heap.size u8 _ (al.take 200) by rw [HACC.out]; exact hown8.mono (Nat.le_trans (Nat.le_of_lt hg12) (Nat.le_of_lt hg2))), hb8⟩
end Go.Proofs.Ytcekkppjalipfaa.Avp
