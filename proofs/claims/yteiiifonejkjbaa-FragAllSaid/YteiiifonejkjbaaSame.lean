/-
  Contracts: SamePiece (23), same (13), of the same pieces.
-/
import Derived.Test.YteiiifonejkjbaaRcut1
import Derived.Test.YteiiifonejkjbaaOpenF
namespace Go.Proofs.Yteiiifonejkjbaa.Chunk
open Go.RowKit Go.Shelf Mem Cells Ops Pcs Go.Proofs.Yteiiifonejkjbaa.Open
set_option linter.unusedVariables false
set_option linter.unusedSimpArgs false
attribute [local go_sem] Oper.semAt_some

set_option maxRecDepth 100000 in
set_option maxHeartbeats 800000 in
theorem samePiece (a : A) (d d' : Value) (w : World) (ha : Reads .u8 w d a.data) (hb : Reads .u8 w d' a.data) :
    Calls Try.prog 23 #[.agg (row a d).toArray, .agg (row a d').toArray] w (TrueB w) := by
  obtain ⟨p, c, rfl, _⟩ := id ha
  obtain ⟨p', c', rfl, _⟩ := id hb
  have HA := Lib.hid ha
  have HB := Lib.hid hb
  clear ha hb
  obtain ⟨n, hn⟩ : ∃ n, a.data.length = n := ⟨_, rfl⟩
  rw [hn] at HA HB ⊢
  obtain ⟨st, hst⟩ : ∃ st, strOfNums a.data = st := ⟨_, rfl⟩
  have HS := Lib.hid hst
  clear hn hst
  go_enter Try.func23, Try.ntmps23
  go_wp2_with (first
    | ((with_reducible refine wpl_boxAt rfl 45 (.tmp 0) rfl (row a (.slice p n c)).toArray ?_ ?_); rfl; go_must (intro w1 hat1 hb1 hs1; have HB1 := Lib.hid hb1; have HS1 := Lib.hid hs1; clear hb1 hs1))
    | ((with_reducible refine wpl_boxAt rfl 45 (.tmp 1) rfl (row a (.slice p' n c')).toArray ?_ ?_); rfl; go_must (intro w2 hat2 hb2 hs2; have HB2 := Lib.hid (HB1.out.trans (hb2.mono HB1.out.size)); have hat1' := hat1.ext hb2; have a0 := hat1'.cell 0; have a1 := hat1'.cell 1; have a2 := hat1'.cell 2; have a3 := hat1'.cell 3; have a4 := hat1'.cell 4; have a5 := hat1'.cell 5; have a6 := hat1'.cell 6; have b0 := hat2.cell 0; have b1 := hat2.cell 1; have b2 := hat2.cell 2; have b3 := hat2.cell 3; have b4 := hat2.cell 4; have b5 := hat2.cell 5; have b6 := hat2.cell 6; simp [row] at a0 a1 a2 a3 a4 a5 a6 b0 b1 b2 b3 b4 b5 b6; have s1 := string30 (HA.out.below HB2.out); have s2 := string30 (HB.out.below HB2.out); rw [HS.out] at s1 s2; clear hat1 hb2 hs2)))
  go_ret
  exact ⟨rfl, HB2.out⟩

set_option maxRecDepth 100000 in
set_option maxHeartbeats 1600000 in
/-- Of the same pieces: yes. -/
theorem same_ (v v' : Value) (al : List A) (w : World) (hv : ReadsE w v al) (hv' : ReadsE w v' al) :
    Calls Try.prog 13 #[v, v'] w (TrueB w) := by
  obtain ⟨p, c, rfl, h1, h2, h3⟩ := hv
  obtain ⟨p', c', rfl, k1, k2, k3⟩ := hv'
  obtain ⟨n, hn⟩ : ∃ n, al.length = n := ⟨_, rfl⟩
  rw [hn] at h1 k1 ⊢
  have HN := Lib.hid hn
  have H3 := Lib.hid h3
  have K3 := Lib.hid k3
  have hnm : n ≤ 9223372036854775807 := by unfold maxLen at h2; omega
  clear hn h3 k3 h1 h2 k1 k2
  obtain ⟨W0, hW0⟩ : ∃ W0, w = W0 := ⟨w, rfl⟩
  rw [hW0] at H3 K3 ⊢
  clear hW0
  go_enter Try.func13, Try.ntmps13
  go_upto_region 2 with fail
  go_loopw [5] (fun i wr => ∃ j : Nat, Hid (j ≤ n) ∧ i = .int .i64 (j : Int) ∧ Hid (Below W0.heap.size W0 wr)) (fun i _ => n - (intOf i).toNat)
  case atStart => exact ⟨0, Nat.zero_le _, rfl, Below.refl _ _⟩
  case round =>
    obtain ⟨j, hj, rfl, HBL⟩ := hrel
    by_cases hlt : j < n
    · have hltz : (j : Int) < (n : Int) := by exact_mod_cast hlt
      have hltb : decide ((j : Int) < (n : Int)) = true := decide_eq_true hltz
      obtain ⟨x, hx⟩ : ∃ x, al[j]? = some x := ⟨al[j]'(by rw [HN.out]; exact hlt), by simp⟩
      obtain ⟨b, off, d, rfl, hb, hra, hrd⟩ := H3.out j x hx
      obtain ⟨b', off', d', rfl, hb', hra', hrd'⟩ := K3.out j x hx
      have HRA := Lib.hid (range_below hra HBL.out hb)
      have HRA' := Lib.hid (range_below hra' HBL.out hb')
      have HRD := Lib.hid (hrd.below HBL.out)
      have HRD' := Lib.hid (hrd'.below HBL.out)
      have HLB := Lib.hid (Nat.lt_of_lt_of_le hb HBL.out.size)
      have HLB' := Lib.hid (Nat.lt_of_lt_of_le hb' HBL.out.size)
      clear hx hb hra hrd hb' hra' hrd'
      go_upto_region 4 with fail
      refine Mono.wp_region_mono [some 18, some 19, some 20, some 21, some 22, some 23, some 24, some 25, some 26, some 27] [Mono.isV (.slice (some ⟨b, off, none⟩) n c), Mono.isV (.int .i64 (j : Int)), Mono.isV (.pointer (some ⟨b, off + j * 7, none⟩)), Mono.isV (.agg (row x d).toArray), Mono.isV (.slice (some ⟨b', off', none⟩) n c'), Mono.isV (.int .i64 (j : Int)), Mono.isV (.pointer (some ⟨b', off' + j * 7, none⟩)), Mono.isV (.agg (row x d').toArray), Mono.isV (.bool true), Mono.isV (.bool false)] (by kernel_rfl) (by kernel_rfl) ?_ ?_
      · simp only [Mono.OpGoals, and_true]
        refine ⟨?_, ?_, ?_, ?_, ?_, ?_, ?_, ?_, ?_, ?_⟩
        · intro a u hbu hsu hdu
          have hru := range_below HRA.out hbu HLB.out;  have hru' := range_below HRA'.out hbu HLB'.out; have hdu1 := HRD.out.below hbu; have hdu2 := HRD'.out.below hbu
          refine Mono.if_want rfl ?_
          exact Mono.ok_move (.tmp 0) rfl (hsu 0 (by decide))
        · intro a u hbu hsu hdu
          have hru := range_below HRA.out hbu HLB.out;  have hru' := range_below HRA'.out hbu HLB'.out; have hdu1 := HRD.out.below hbu; have hdu2 := HRD'.out.below hbu
          refine Mono.if_want rfl ?_
          exact Mono.ok_move (.tmp 5) rfl (hsu 5 (by decide))
        · intro a u hbu hsu hdu
          have hru := range_below HRA.out hbu HLB.out;  have hru' := range_below HRA'.out hbu HLB'.out; have hdu1 := HRD.out.below hbu; have hdu2 := HRD'.out.below hbu
          refine Mono.if_want rfl ?_
          have z18 : a.eval (.tmp 18) = .slice (some ⟨b, off, none⟩) n c := Mono.dep_at hdu (i := 0) (d := 18) rfl rfl rfl
          simp [Act.eval] at z18
          have z19 : a.eval (.tmp 19) = .int .i64 (j : Int) := Mono.dep_at hdu (i := 1) (d := 19) rfl rfl rfl
          simp [Act.eval] at z19
          exact Mono.ok_val (.pointer (some ⟨b, off + j * 7, none⟩)) (by simp [execOp, z18, z19, go_sem, hltz]) rfl
        · intro a u hbu hsu hdu
          have hru := range_below HRA.out hbu HLB.out;  have hru' := range_below HRA'.out hbu HLB'.out; have hdu1 := HRD.out.below hbu; have hdu2 := HRD'.out.below hbu
          refine Mono.if_want rfl ?_
          have z20 : a.eval (.tmp 20) = .pointer (some ⟨b, off + j * 7, none⟩) := Mono.dep_at hdu (i := 2) (d := 20) rfl rfl rfl
          exact Mono.ok_loadE 45 (.tmp 20) rfl b (off + j * 7) (row x d).toArray _ hru Try.underlying45 rfl (by kernel_rfl) z20 rfl
        · intro a u hbu hsu hdu
          have hru := range_below HRA.out hbu HLB.out;  have hru' := range_below HRA'.out hbu HLB'.out; have hdu1 := HRD.out.below hbu; have hdu2 := HRD'.out.below hbu
          refine Mono.if_want rfl ?_
          exact Mono.ok_move (.tmp 1) rfl (hsu 1 (by decide))
        · intro a u hbu hsu hdu
          have hru := range_below HRA.out hbu HLB.out;  have hru' := range_below HRA'.out hbu HLB'.out; have hdu1 := HRD.out.below hbu; have hdu2 := HRD'.out.below hbu
          refine Mono.if_want rfl ?_
          exact Mono.ok_move (.tmp 5) rfl (hsu 5 (by decide))
        · intro a u hbu hsu hdu
          have hru := range_below HRA.out hbu HLB.out;  have hru' := range_below HRA'.out hbu HLB'.out; have hdu1 := HRD.out.below hbu; have hdu2 := HRD'.out.below hbu
          refine Mono.if_want rfl ?_
          have z22 : a.eval (.tmp 22) = .slice (some ⟨b', off', none⟩) n c' := Mono.dep_at hdu (i := 4) (d := 22) rfl rfl rfl
          simp [Act.eval] at z22
          have z23 : a.eval (.tmp 23) = .int .i64 (j : Int) := Mono.dep_at hdu (i := 5) (d := 23) rfl rfl rfl
          simp [Act.eval] at z23
          exact Mono.ok_val (.pointer (some ⟨b', off' + j * 7, none⟩)) (by simp [execOp, z22, z23, go_sem, hltz]) rfl
        · intro a u hbu hsu hdu
          have hru := range_below HRA.out hbu HLB.out;  have hru' := range_below HRA'.out hbu HLB'.out; have hdu1 := HRD.out.below hbu; have hdu2 := HRD'.out.below hbu
          refine Mono.if_want rfl ?_
          have z24 : a.eval (.tmp 24) = .pointer (some ⟨b', off' + j * 7, none⟩) := Mono.dep_at hdu (i := 6) (d := 24) rfl rfl rfl
          exact Mono.ok_loadE 45 (.tmp 24) rfl b' (off' + j * 7) (row x d').toArray _ hru' Try.underlying45 rfl (by kernel_rfl) z24 rfl
        · intro a u hbu hsu hdu
          have hru := range_below HRA.out hbu HLB.out;  have hru' := range_below HRA'.out hbu HLB'.out; have hdu1 := HRD.out.below hbu; have hdu2 := HRD'.out.below hbu
          refine Mono.if_want rfl ?_
          have z21 : a.eval (.tmp 21) = .agg (row x d).toArray := Mono.dep_at hdu (i := 3) (d := 21) rfl rfl rfl
          have z25 : a.eval (.tmp 25) = .agg (row x d').toArray := Mono.dep_at hdu (i := 7) (d := 25) rfl rfl rfl
          simp [Act.eval] at z21 z25
          exact Mono.ok_call 23 _ _ rfl #[.agg (row x d).toArray, .agg (row x d').toArray] (by simp [execOp, z21, z25, go_sem]) ((samePiece x d d' u hdu1 hdu2).mono (by rintro e w' ⟨rfl, h⟩; exact ⟨_, rfl, h, rfl⟩))
        · intro a u hbu hsu hdu
          have hru := range_below HRA.out hbu HLB.out;  have hru' := range_below HRA'.out hbu HLB'.out; have hdu1 := HRD.out.below hbu; have hdu2 := HRD'.out.below hbu
          refine Mono.if_want rfl ?_
          have z26 : a.eval (.tmp 26) = .bool true := Mono.dep_at hdu (i := 8) (d := 26) rfl rfl rfl
          simp [Act.eval] at z26
          exact Mono.ok_val (.bool false) (by simp [execOp, z26, go_sem, hltz]) rfl
      intro u hu
      simp only [Mono.Fin]
      rintro _ rfl _ rfl _ rfl _ rfl _ rfl _ rfl _ rfl _ rfl _ rfl _ rfl
      have HB2 := Lib.hid (HBL.out.trans (hu.mono HBL.out.size))
      clear hu
      simp [Act.put]
      go_wp2_with fail
      go_roundw
      case rel => exact ⟨j + 1, hlt, by go_num, HB2.out⟩
      case measure => simp [intOf]; omega
    · have hltz : ¬ (j : Int) < (n : Int) := by exact_mod_cast hlt
      have hltb : decide ((j : Int) < (n : Int)) = false := decide_eq_false hltz
      go_wp2_with fail
      go_ret
      exact ⟨rfl, HBL.out⟩
end Go.Proofs.Yteiiifonejkjbaa.Chunk
