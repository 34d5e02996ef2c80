/-
  Contract: own (attributes that share nothing).
-/
import Derived.Test.YtjfponhdlfhmbaaAvpsO
import Derived.Deep.DeepMust
namespace Go.Proofs.Ytjfponhdlfhmbaa.Avp
open Go.RowKit Mem Cells Avps Wire Ops
set_option linter.unusedVariables false
set_option linter.unusedSimpArgs false

def OwnIs (w : World) (al : List A) (e : Ending) (w' : World) : Prop := ∃ v', e = .returned v' ∧ OwnL 41 w.heap.size w' v' al ∧ Below w.heap.size w w'
set_option maxRecDepth 100000 in
set_option maxHeartbeats 1600000 in
theorem own (v : Value) (al : List A) (w : World) (hr : ReadsL w v al) (hd : ∀ a ∈ al, a.data.length ≤ 140737488355328) : Calls Try.prog 9 #[v] w (OwnIs w (al.take 200)) := by
  obtain ⟨p, c, rfl, k1, k2⟩ := hr.shape
  have HR := Lib.hid hr
  have HD := Lib.hid hd
  clear hr hd
  go_enter Try.func9, Try.ntmps9
  go_wp2_with fail
  go_loopw [3, 4] (fun u i wr => ∃ k : Nat, i = .int .i64 k ∧ k ≤ al.length ∧ k ≤ 200 ∧ OwnL 41 w.heap.size wr u (al.take k) ∧ Below w.heap.size w wr) (fun _ i _ => al.length - (intOf i).toNat)
  case atStart => exact ⟨0, rfl, by omega, by omega, OwnL.nil _ _ _, Below.refl _ _⟩
  case round =>
    obtain ⟨k, rfl, hk, h200, hown, hbl⟩ := hrel
    by_cases hlt : k < al.length
    · by_cases hk200 : k < 200
      · obtain ⟨x, hx1, hx2, b, off, c', pd, nd, hv, _, _, hltb, hra, hrd⟩ := (HR.out.below hbl).elem k hlt
        cases hv
        obtain ⟨acc, hacc⟩ : ∃ acc, al.take k = acc := ⟨_, rfl⟩
        rw [hacc] at hown
        have hal : acc.length ≤ 200 := by rw [← hacc, List.length_take]; omega
        obtain ⟨pl, cl, rfl, q1, q2⟩ := hown.reads.shape
        have HA := Lib.hid hacc
        have HX := Lib.hid hx1
        have HRA := Lib.hid hra
        have hdx := HD.out x hx2
        have hwl := hbl.size
        have K1 : ([] : List Int).length + x.data.length ≤ maxLen := by simp [maxLen]; omega
        have K2 : (([] : List Int).length + x.data.length) * 1 ≤ 140737488355328 := by simp; omega
        have K4 : acc.length + 1 ≤ maxLen := by simp [maxLen]; omega
        have K5 : (acc.length + 1) * 40 ≤ 140737488355328 := by omega
        clear hacc hx1 hx2 hra
        go_wp2_with (first
          | (refine wpl_loadE rfl 41 (.tmp 18) rfl b (off + k * 5) rfl (row x (.slice pd x.data.length nd)).toArray _ HRA.out Try.underlying41 rfl (by kernel_rfl) ?_; clear HRA)
          | (refine wpl_allocAt rfl 41 rfl zeroRow (by kernel_rfl) ?_; intro w1 hat1 hb1 hs1)
          | (refine wpl_storeR rfl 41 (.tmp 5) (.tmp 19) rfl rfl wr.heap.size 41 zeroRow (row x (.slice pd x.data.length nd)).toArray rfl rfl hat1 (by kernel_rfl) rfl (by simp [row, Value.oneCell']) ?_; go_must (intro w2 hat2 hg2; have hb2 := hb1.grown hg2 hb1.size (fun q e => by cases e; exact Nat.le_refl _); have hlt2 := hat2.lt; clear hat1 hg2 hb1))
          | (refine wpl_empty rfl 23 5 rfl .u8 (fun _ => by kernel_rfl) ?_; go_must (intro w3 hown3 hb3 hs3; have hb3' := hb2.trans (hb3.mono hb2.size); have hat3 := hat2.ext hb3; have c4 := hat3.cell 4; simp [row] at c4; have hrd3 := hrd.below hb3'; clear hat2 hb2))
          | (at_builtin; have _t := hown3; clear _t; go_must (obtain ⟨i0, hi, hz0, hz1, hz2⟩ := info_parts info5; refine wpl_append rfl (.tmp 20) (.tmp 22) 23 rfl .u8 w2.heap.size 5 1 i0 (.int .u8 0) Try.underlying23 hi hz0 hz1 hz2 rfl (.slice (some ⟨w2.heap.size, 0, none⟩) 0 0) _ [] x.data rfl rfl hown3 hrd3 K1 K2 (by have := hb3.size; omega) ?_; intro v4 w4 hv4 hg4; rw [List.nil_append] at hv4; clear hi hz0 hz1 hz2; obtain ⟨p4, c4', rfl, kk1, kk2, kk3, kk4⟩ := hv4.reads; have hat4 := hat3.grown (k := w2.heap.size) hg4 (Nat.ne_of_lt hlt2); have hb4 := hb3'.grown hg4 hb3'.size (fun q e => by have e' : w2.heap.size = q := Option.some.inj e; omega); clear hown3 hrd3 hat3 hb3' hb3 c4 kk3 kk4 hg4))
          | (refine wpl_storeC rfl 23 (.tmp 24) (.tmp 23) rfl rfl wr.heap.size 4 41 (row x (.slice pd x.data.length nd)).toArray (row x (.slice p4 x.data.length c4')).toArray (.slice p4 x.data.length c4') rfl rfl hat4 (show (4 : Nat) < 5 by decide) (by kernel_rfl) rfl rfl ?_; go_must (intro w5 hat5 hg5; have hb5 := hb4.grown hg5 hb4.size (fun q e => by cases e; exact Nat.le_refl _); have hd5 := reads_grown hv4.reads hg5 (fun h0 q hq e => by obtain ⟨g', e1, _, e2, _⟩ := hv4.form h0; rw [e1] at e; have e3 : g' = q := Option.some.inj e; have e4 : wr.heap.size = q := Option.some.inj hq; omega); have hap5 : Apart (.slice pl acc.length cl) (x, .slice p4 x.data.length c4') := (fun h0 q hq e => by obtain ⟨g', e1, _, e2, _⟩ := hv4.form h0; have h1 := (hown.lt q hq).2; rw [show (x, Value.slice p4 x.data.length c4').2 = .slice p4 x.data.length c4' from rfl, e1] at e; have e3 : g' = q := Option.some.inj e; omega); have hown5 := hown.below hb5; clear hat4 hb4 hv4 hg5))
          | (refine wpList_load_row rfl 41 (.tmp 5) rfl wr.heap.size rfl 41 (row x (.slice p4 x.data.length c4')).toArray _ _ hat5 Try.underlying41 rfl (by kernel_rfl) ?_)
          | (obtain ⟨i41, z41, i1, i2, i3, i4, i5⟩ := info41; refine wpl_push 22 41 40 27 (.tmp 26) (.tmp 25) rfl rfl rfl rfl rfl x (.slice p4 x.data.length c4') rfl (build22 _ _) w.heap.size i41 z41 Try.underlying22 i1 i2 i3 i4 i5 (.slice pl acc.length cl) acc (fun _ => rfl) (fun _ => rfl) hown5 hd5 hap5 K4 K5 (by have := hb5.size; omega) ?_; go_must (clear i1 i2 i3 i4 i5; intro v6 w6 hv6 hg6; have hbl6 := (hbl.trans (hb5.mono hbl.size)).grown hg6 (by have := hb5.size; omega) (fun q e => (hown5.lt q e).1); clear hown5 hd5 hap5 hat5 hg6)))
        go_roundw
        case rel => exact ⟨k + 1, by go_num, by omega, by omega, by rw [List.take_succ_eq_append_getElem hlt, HA.out]; rw [List.getElem?_eq_getElem hlt] at HX; rw [Option.some.inj HX.out]; exact hv6, hbl6⟩
        case measure => simp [intOf]; omega
      · obtain rfl : k = 200 := by omega
        go_wp2_with fail
        go_ret
        exact ⟨_, rfl, hown, hbl⟩
    · have hk2 : al.length = k := by omega
      have e : al.take k = al.take 200 := by rw [List.take_of_length_le (by omega), List.take_of_length_le (by omega)]
      rw [e] at hown
      clear e
      obtain rfl := hk2
      go_wp2_with fail
      go_ret
      exact ⟨_, rfl, hown, hbl⟩
end Go.Proofs.Ytjfponhdlfhmbaa.Avp
