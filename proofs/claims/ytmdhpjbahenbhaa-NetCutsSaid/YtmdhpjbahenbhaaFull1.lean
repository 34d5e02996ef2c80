/-
  The law NetFull: the walk.
-/
import Derived.Test.YtmdhpjbahenbhaaNet5
namespace Go.Proofs.Ytmdhpjbahenbhaa.Net
open Go.RowKit Mem Cells Ops Go.Maps
set_option linter.unusedVariables false
set_option linter.unusedSimpArgs false

def fr (c : Int) (j : Nat) : F := ⟨(j % 3 : Nat), 0, ((j + 1) % 3 : Nat), 0, [c, (j % 256 : Nat)], false⟩
def lst (c : Int) (i : Nat) : List F := (List.range (min i 1024)).map (fr c)
theorem lst_length (c : Int) (i : Nat) : (lst c i).length = min i 1024 := by simp [lst]
abbrev noCut : Int → Int → Int → Bool := fun _ _ _ => false
theorem lst_send (c : Int) (i : Nat) : sendE 3 (i % 3 : Nat) 0 ((i + 1) % 3 : Nat) 0 [c, (i % 256 : Nat)] = 0 ∧ sendL 3 noCut (i % 3 : Nat) 0 ((i + 1) % 3 : Nat) 0 [c, (i % 256 : Nat)] (lst c i) = lst c (i + 1) := by
  have ha : sendArg 3 (i % 3 : Nat) 0 ((i + 1) % 3 : Nat) 0 = true := by
    unfold sendArg hostB pathB
    rw [decide_eq_true (show (0 : Int) ≤ (i % 3 : Nat) ∧ ((i % 3 : Nat) : Int) < 3 by omega), decide_eq_true (show (0 : Int) ≤ ((i + 1) % 3 : Nat) ∧ (((i + 1) % 3 : Nat) : Int) < 3 by omega), decide_eq_false (show ¬ ((i % 3 : Nat) : Int) = ((i + 1) % 3 : Nat) by omega)]
    rfl
  have e1 : sendE 3 (i % 3 : Nat) 0 ((i + 1) % 3 : Nat) 0 [c, (i % 256 : Nat)] = 0 := by unfold sendE; rw [ha]; rfl
  refine ⟨e1, ?_⟩
  unfold sendL goes
  rw [e1, lst_length]
  by_cases h : i < 1024
  · rw [if_pos ⟨rfl, by simp; omega⟩]
    unfold lst
    rw [show min i 1024 = i from by omega, show min (i + 1) 1024 = i + 1 from by omega, List.range_succ, List.map_append]
    rfl
  · rw [if_neg (by simp; omega)]
    unfold lst
    rw [show min i 1024 = 1024 from by omega, show min (i + 1) 1024 = 1024 from by omega]
theorem lst_get (c : Int) (i j : Nat) (h : j < min i 1024) : (lst c i)[j]? = some (fr c j) := by
  unfold lst
  rw [List.getElem?_map, List.getElem?_range h]
  rfl
set_option maxRecDepth 100000 in
set_option maxHeartbeats 3200000 in
theorem full_ (c k : Int) (w : World) (hc : 0 ≤ c ∧ c ≤ 255) (hk : 0 ≤ k ∧ k ≤ 65535) : Calls Try.prog 4 #[.int .u8 c, .int .u16 k] w fun e w' => e = .returned (.bool true) ∧ Below w.heap.size w w' := by
  have PN := Lib.hid (New 3 w (by omega))
  go_enter Try.func4, Try.ntmps4
  go_upto_region 4 with (first
    | (go_at_call 8; go_must (refine PN.out.mono ?_; rintro e w1 ⟨rfl, hN, hb1⟩; have hN1 := hN.mono (more_from (B := w.heap.size) (fun _ h => h.elim) (Nat.le_refl _)); clear hN PN))
    | (go_at_call 9; go_must (refine (answers _).mono ?_; rintro e w2 ⟨rfl, hb⟩; have hu2 := hb1.trans (hb.mono hb1.size); have hN2 := hN1.below hb; clear hb1 hN1 hb)))
  go_wp2_with fail
  go_loopw [7] (fun j wr => ∃ i : Nat, j = .int .i64 i ∧ i ≤ 1030 ∧ Net (fun q => w.heap.size ≤ q) wr (w.heap.size + 1) 3 (lst c i) noCut 0 ∧ Below w.heap.size w wr) (fun j _ => 1030 - (intOf j).toNat)
  case atStart => exact ⟨0, rfl, by omega, hN2, hu2⟩
  case round =>
    obtain ⟨i, rfl, hi, hH, hbl⟩ := hrel
    by_cases hlt : i < 1030
    · have e1 : ((i % 3 : Nat) : Int) = (i : Int) % 3 := rfl
      have e2 : (((i + 1) % 3 : Nat) : Int) = ((i : Int) + 1) % 3 := rfl
      have e3 : ((i % 256 : Nat) : Int) = (i : Int) % 256 := rfl
      have PS := Lib.hid (by
        have hz := (Below.refl wr.heap.size wr).alloc (Nat.le_refl _) (.cells #[.int .u8 c, .int .u8 ((i % 256 : Nat) : Int)] 5)
        have := SendX (hH.below hz) (i % 3 : Nat) 0 ((i + 1) % 3 : Nat) 0 _ [c, ((i % 256 : Nat) : Int)] (Reads.alloc .u8 wr [c, ((i % 256 : Nat) : Int)] 5 (0, 0) 2 (by simp) (by simp [maxLen])) (by
          intro x hx
          simp only [List.mem_cons, List.not_mem_nil, or_false] at hx
          rcases hx with rfl | rfl
          · exact hc
          · omega) (by simp)
        rw [(lst_send c i).1, (lst_send c i).2, e1, e2, e3] at this
        exact this)
      clear e1 e2 e3
      go_wp2_with (go_at_call 12; go_must (refine PS.out.mono ?_; rintro e w5 ⟨rfl, hN5, hb5⟩; have hz := (Below.refl wr.heap.size wr).alloc (Nat.le_refl _) (.cells #[.int .u8 c, .int .u8 (i % 256)] 5); have huz := hbl.trans (hz.mono hbl.size); have hu5 := huz.trans (hb5.below (B := w.heap.size) (fun _ h => h) huz.size); have hN6 := bForm hN5 huz.size; clear hz huz hb5 hN5))
      go_roundw
      case rel => exact ⟨i + 1, by go_num, by omega, hN6, hu5⟩
      case measure => simp [intOf]; omega
    · obtain rfl : i = 1030 := by omega
      obtain ⟨a, ha, hal⟩ : ∃ a : Nat, k % 1024 = (a : Int) ∧ a < 1024 := ⟨(k % 1024).toNat, by omega, by omega⟩
      have hl : (lst c 1030).length = 1024 := lst_length c 1030
      have hget := lst_get c 1030 a (by omega)
      obtain ⟨fs0, hfs0⟩ : ∃ fs0, lst c 1030 = fs0 := ⟨_, rfl⟩
      rw [hfs0] at hl hH hget
      clear hfs0
      have P1 := Lib.hid (by have := Len hH; rwa [hl] at this)
      have P2 := Lib.hid (TwinFull hH a (by rw [hl]; unfold inB; exact decide_eq_true (by omega)) (by rw [hl]; exact Nat.le_refl _))
      obtain ⟨zs, p, m, cl, b, D, h0⟩ := hH
      have hm : m = 1024 := by rw [← h0.flen, hl]
      obtain ⟨⟨f, d⟩, hz1, hz2⟩ := h0.get a (by omega)
      rw [hget] at hz2
      have hff : f = fr c a := (Option.some.inj hz2).symm
      subst hff
      obtain ⟨_, _, _, _, _, _, _, h8⟩ := h0.list.elem a _ hz1
      obtain ⟨g, cd, rfl⟩ : ∃ g cd, d = .slice (some ⟨g, 0, none⟩) 2 cd := by
        obtain ⟨pd, cd, ed, _⟩ := h8.1.reads
        have h9 := h8.1
        rw [ed] at h9
        obtain ⟨g, rfl, _⟩ := Row.form h9 (by show 0 < 2; omega)
        exact ⟨g, cd, ed⟩
      have P3 := Lib.hid (by have := TakeZ h0 a (by omega) _ hz1; simp only at this; exact this)
      have HB := Lib.hid hbl
      have HL := Lib.hid (show (fs0.eraseIdx a).length = 1023 by rw [List.length_eraseIdx, hl, if_pos hal])
      have e256 : ((a % 256 : Nat) : Int) = (a : Int) % 256 := rfl
      clear h0 hz1 hz2 hl hm hget hN2 hu2 hbl h8
      go_wp2_with (first
        | (go_at_call 11; have _t := P1; clear _t; go_must (refine P1.out.mono ?_; clear P1; rintro e u1 ⟨rfl, rfl⟩))
        | (go_at_call 15; have _t := P2; clear _t; go_must (refine P2.out.mono ?_; clear P2; rintro e u2 ⟨rfl, rfl⟩))
        | (go_at_call 14; go_must (refine P3.out.mono ?_; clear P3; rintro e u3 ⟨rfl, ⟨p3, c3, hH3⟩, ho3, hx3⟩; have hu3 := HB.out.trans (hx3.below (B := w.heap.size) (fun _ h => h) HB.out.size); have hr3 : Row .u8 5 0 u3 (.slice (some ⟨g, 0, none⟩) ([c, ((a % 256 : Nat) : Int)] : List Int).length cd) [c, ((a % 256 : Nat) : Int)] := ho3.1; have k0 := (Row.cell hr3 0 (by simp)).1; have k1 := (Row.cell hr3 1 (by simp)).1; simp at k0 k1; have lg := (hr3.lt g rfl).2; have hN3 : Net (fun q => w.heap.size ≤ q) u3 (w.heap.size + 1) 3 (fs0.eraseIdx a) noCut 0 := ⟨_, _, _, _, _, _, hH3⟩; clear hr3 ho3 hH3 hx3))
        | ((with_reducible refine wpl_allocAt rfl 35 rfl zero35 (by kernel_rfl) ?_); go_must (intro u4 hat4 hb4 hs4; clear hs4))
        | ((with_reducible refine wpl_storeR rfl 35 (.tmp 9) (.tmp 55) rfl rfl u3.heap.size 35 zero35 (rowF (fr c a) (.slice (some ⟨g, 0, none⟩) 2 cd)).toArray ?_ ?_ hat4 (by kernel_rfl) ?_ ?_ ?_); rfl; rfl; rfl; (simp [rowF, Value.oneCell']); go_must (intro u5 hat5 hg5; have hB5 := below_grown hb4 hg5 hb4.size (Nat.le_refl _); have j0 := (hB5.cell (p := ⟨g, 0, none⟩) lg).trans k0; have j1 := (hB5.cell (p := ⟨g, 1, none⟩) lg).trans k1; have c4 := hat5.cell 4; simp [rowF] at c4; have hN5 := hN3.below hB5; have hu5 := hu3.trans (hB5.mono hu3.size); clear k0 k1 hat4 hb4 hg5 hB5 hN3 hu3))
        | (go_at_call 15; go_must (refine (TwinOk hN5 0 (by rw [HL.out]; decide) (by rw [HL.out]; decide)).mono ?_; rintro e u6 ⟨rfl, ⟨f6, _, hN6⟩, hx6⟩; have hu6 := hu5.trans (hx6.below (B := w.heap.size) (fun _ h => h) hu5.size); have P7 := Lib.hid (by have := Len hN6; rwa [show (fs0.eraseIdx a ++ [f6]).length = 1024 by rw [List.length_append, HL.out]; rfl] at this); clear hN6 hx6 hN5 j0 j1 c4))
        | (go_at_call 11; go_must (refine P7.out.mono ?_; clear P7; rintro e u7 ⟨rfl, rfl⟩)))
      go_ret
      exact ⟨rfl, hu6⟩
end Go.Proofs.Ytmdhpjbahenbhaa.Net
