/-
  FragPuts (6): the walk.
-/
import Derived.Test.YteiiifonejkjbaaRput2
import Derived.Test.YteiiifonejkjbaaBox4
namespace Go.Proofs.Yteiiifonejkjbaa.Rb
open Go.RowKit Mem Cells Ops Pcs Go.Maps Go.Proofs.Yteiiifonejkjbaa.Open Go.Proofs.Yteiiifonejkjbaa.Bx
set_option linter.unusedVariables false
set_option linter.unusedSimpArgs false
attribute [local go_sem] Oper.semAt_some

theorem rput {w : World} {Z g : Nat} {x : S} (H : Rbox Z w g x) (p : A) (d : Value) (hr : Reads .u8 w d p.data) (hok : p.ok) (hwl : x.wait.length ≤ 999990) (hZ : Z ≤ w.heap.size) :
    Calls Try.prog 17 #[.pointer (some ⟨g, 0, none⟩), .agg (row p d).toArray] w (RPutIs Z w g x p) := by
  cases hb : badF p with
  | true => exact rput_bad H p d hr hok hb
  | false =>
    obtain ⟨vh, vt, h⟩ := H
    exact rput_in h p d hr (inOk_of hok hb) hb hwl hZ
theorem ready_le : ∀ (f : Nat) {l : List T} {nx : Nat → Int} {s : Nat} {out : List G}, (readyF f l nx s out).1.length ≤ l.length
  | 0, l, nx, s, out => by simp [readyF]
  | f + 1, l, nx, s, out => by
    unfold readyF
    split
    · exact Nat.le_refl _
    · exact Nat.le_trans (ready_le f) (List.length_filter_le _ _)
theorem putF_wait (x : S) (p : A) : (putF x p).1.wait.length ≤ x.wait.length + 1 := by
  unfold putF
  split
  · exact Nat.le_succ _
  split
  · exact Nat.le_succ _
  split
  · exact Nat.le_succ _
  split
  · exact Nat.le_succ _
  · dsimp only
    split
    · exact Nat.le_succ _
    · refine Nat.le_trans (ready_le _) ?_
      unfold waitF
      split
      · exact Nat.le_succ _
      · simp
theorem rnew {g : Nat} (Z : Nat) (w : World) (hat : At w g 56 (rbA (.slice none 0 0) (.slice none 0 0) fun _ => 0)) (hZ : Z ≤ g) : Rbox Z w g s0 :=
  ⟨.slice none 0 0, .slice none 0 0, hat, OwnQ.nil _ _, OwnT.nil _ _, hZ, s0_ok⟩
set_option maxRecDepth 100000 in
set_option maxHeartbeats 16000000 in
theorem puts_ (w : World) (v : Value) (al : List A) (hv : ReadsE w v al) (hok : ∀ a ∈ al, a.ok) (hlen : ∀ a ∈ al, a.data.length ≤ 140737488351232) : Calls Try.prog 6 #[v] w (Chunk.TrueB w) := by
  obtain ⟨W0, hW0⟩ : ∃ W0, w = W0 := ⟨w, rfl⟩
  rw [hW0] at hv ⊢
  obtain ⟨p, c, rfl, h1, h2, h3⟩ := hv
  obtain ⟨N, hN⟩ : ∃ N, al.length = N := ⟨_, rfl⟩
  rw [hN] at h1 ⊢
  have HN := Lib.hid hN
  have H3 := Lib.hid h3
  have HOK := Lib.hid hok
  have HLEN := Lib.hid hlen
  have hNm : N ≤ 9223372036854775807 := by unfold maxLen at h2; omega
  clear hW0 h1 h2 h3 hN hok hlen
  go_enter Try.func6, Try.ntmps6
  go_upto_region 2 with (go_at_call 15; go_must (refine (newBox W0.heap.size _).mono ?_; rintro e w1 ⟨g, b1, b2, rfl, hbx, hb1, hg1, hg2, hg3⟩; have HBX1 := Lib.hid hbx; have HB1 := Lib.hid hb1; have HG := Lib.hid (And.intro hg1 (And.intro hg2 hg3)); clear hbx hb1 hg1 hg2 hg3))
  have hat2 := At.new w1 56 #[.slice none 0 0, .slice none 0 0, .int .u16 0, .int .u16 0, .int .u16 0, .int .u16 0, .int .u16 0, .int .u16 0, .int .u16 0, .int .u16 0]
  have hb2 := (Below.refl w1.heap.size w1).alloc (Nat.le_refl _) (.cells #[.slice none 0 0, .slice none 0 0, .int .u16 0, .int .u16 0, .int .u16 0, .int .u16 0, .int .u16 0, .int .u16 0, .int .u16 0, .int .u16 0] 56)
  generalize w1.alloc (.cells #[.slice none 0 0, .slice none 0 0, .int .u16 0, .int .u16 0, .int .u16 0, .int .u16 0, .int .u16 0, .int .u16 0, .int .u16 0, .int .u16 0] 56) = w2 at hat2 hb2 ⊢
  have HR2 := Lib.hid (rnew W0.heap.size w2 hat2 HB1.out.size)
  have HX2 : Hid (Box W0.heap.size w2 g b1 b2 s0) := by
    obtain ⟨vs, vw, m1, m2, h⟩ := HBX1.out
    exact ⟨vs, vw, m1, m2, h.below hb2⟩
  have HB2 := Lib.hid (HB1.out.trans (hb2.mono HB1.out.size))
  have HBXK := Lib.hid (fun k (h : BX g b1 b2 k) => show W0.heap.size ≤ k by have h1 := HG.out; rcases h with rfl | rfl | rfl; exact h1.1; exact h1.2.1; exact h1.2.2)
  obtain ⟨gr, hgr⟩ : ∃ gr, w1.heap.size = gr := ⟨_, rfl⟩
  rw [hgr] at HR2 ⊢
  clear hat2 hb2 hgr HBX1 HB1 HG
  go_upto_region 3 with fail
  go_loopw [5] (fun v5 wr => ∃ (i : Nat) (x : S), v5 = .int .i64 (i : Int) ∧ Hid (i ≤ 60 ∧ i ≤ N ∧ x.wait.length ≤ i) ∧ Hid (Box W0.heap.size wr g b1 b2 x) ∧ Hid (Rbox W0.heap.size wr gr x) ∧ Hid (Below W0.heap.size W0 wr)) (fun v5 _ => 60 - (intOf v5).toNat)
  case atStart => exact ⟨0, s0, rfl, ⟨by omega, by omega, Nat.zero_le _⟩, HX2.out, HR2.out, HB2.out⟩
  case round =>
    clear HX2 HR2 HB2
    obtain ⟨i, x, rfl, HI, HXr, HRr, HBL⟩ := hrel
    by_cases hlt : i < N
    · have hltz : (i : Int) < (N : Int) := by omega
      have hltb : decide ((i : Int) < (N : Int)) = true := decide_eq_true hltz
      by_cases hl6 : i < 60
      · have hl6z : (i : Int) < 60 := by omega
        have hl6b : decide ((i : Int) < 60) = true := decide_eq_true hl6z
        obtain ⟨y, hy⟩ : ∃ y, al[i]? = some y := ⟨al[i]'(by rw [HN.out]; exact hlt), by simp⟩
        obtain ⟨b, off, d, rfl, hb, hra, hrd⟩ := H3.out i y hy
        have hym := List.mem_of_getElem? hy
        have HYK := Lib.hid (HOK.out y hym)
        have HYL := Lib.hid (HLEN.out y hym)
        obtain ⟨pd, md, rfl, _⟩ : ∃ pd md, d = .slice pd y.data.length md ∧ True := by obtain ⟨pd, md, e, _⟩ := id hrd; exact ⟨pd, md, e, trivial⟩
        obtain ⟨yn, hyn⟩ : ∃ yn, y.data.length = yn := ⟨_, rfl⟩
        rw [hyn] at hra hrd
        have HYN := Lib.hid hyn
        have HRA0 := Lib.hid hra
        have HBLT := Lib.hid hb
        have HRA := Lib.hid (range_below hra HBL.out hb)
        have HRD := Lib.hid hrd
        clear hy hb hra hrd hym hyn
        go_upto_region 9 with (first
          | ((with_reducible refine wpl_loadE rfl 45 (.tmp 26) rfl b (off + i * 7) ?_ (row y (.slice pd yn md)).toArray _ HRA.out Try.underlying45 rfl (by kernel_rfl) ?_); rfl)
          | ((with_reducible refine wpl_allocAt rfl 45 rfl #[.int .u32 0, .int .u16 0, .int .u16 0, .bool false, .bool false, .bool false, .slice none 0 0] (by kernel_rfl) ?_); go_must (intro w3 hat3 hb3 hs3; have HC3 := Lib.hid hb3; clear hb3 hs3))
          | ((with_reducible refine wpl_storeR rfl 45 (.tmp 6) (.tmp 27) rfl rfl wr.heap.size 45 #[.int .u32 0, .int .u16 0, .int .u16 0, .bool false, .bool false, .bool false, .slice none 0 0] (row y (.slice pd yn md)).toArray ?_ ?_ hat3 (by kernel_rfl) ?_ ?_ ?_); rfl; rfl; rfl; (simp [Value.oneCell', row]); go_must (intro w4 hat4 hg4; have HT4 := Lib.hid hat4; have HC4 := Lib.hid (below_grown HC3.out hg4 HC3.out.size (Nat.le_refl _)); clear hat3 hat4 hg4))
          | ((with_reducible refine wpl_empty rfl 30 5 rfl .u8 (fun _ => by kernel_rfl) ?_); go_must (intro w5 hown5 hb5 hs5; have HC5 := Lib.hid (HC4.out.trans (hb5.mono HC4.out.size)); have HT5 := Lib.hid (HT4.out.ext hb5); have HO5 := Lib.hid hown5; have HS5 := Lib.hid hb5.size; have k6 := HT5.out.cell 6; simp [row] at k6; clear hown5 hb5 hs5))
          | (at_builtin; have _t := HO5; clear _t; go_must (obtain ⟨i0, hi, hz0, hz1, hz2⟩ := info_parts Chunk.info5; refine wpl_append rfl (.tmp 28) (.tmp 30) 30 rfl .u8 w4.heap.size 5 1 i0 (.int .u8 0) Try.underlying30 hi hz0 hz1 hz2 rfl (.slice (some ⟨w4.heap.size, 0, none⟩) 0 0) _ [] y.data rfl rfl HO5.out (HYN.out ▸ HRD.out.below (HBL.out.trans (HC5.out.mono HBL.out.size))) (by have := HYL.out; simp [maxLen]; omega) (by have := HYL.out; simp; omega) HS5.out ?_; clear hi hz0 hz1 hz2; intro v6 w6 hv6 hg6; rw [List.nil_append] at hv6; have HT6 := Lib.hid (HT5.out.kept' hg6 (own_ne HO5.out HT5.out (by decide))); have HV6 := Lib.hid hv6; have HC6 := Lib.hid (HC5.out.grown hg6 HC5.out.size (fun q e => by cases e; exact HC4.out.size)); obtain ⟨q4, c4, hvv, _⟩ := id hv6.reads; rw [HYN.out] at hvv; subst hvv; clear hv6 hg6 HO5 k6))
          | ((with_reducible refine wpl_storeC rfl 30 (.tmp 32) (.tmp 31) rfl rfl wr.heap.size 6 45 (row y (.slice pd yn md)).toArray (row y (.slice q4 yn c4)).toArray (.slice q4 yn c4) ?_ ?_ HT6.out ?_ (by kernel_rfl) ?_ ?_ ?_); rfl; rfl; exact (show (6 : Nat) < 7 by decide); rfl; rfl; go_must (intro w7 hat7 hg7; have HV7 := Lib.hid (HV6.out.kept hg7 (.inr (own_ne HV6.out HT6.out (by decide)))); have HC7 := Lib.hid (below_grown HC6.out hg7 HC6.out.size (Nat.le_refl _)); have HT7 := Lib.hid hat7; clear hat7 hg7)))
        have HX7 : Hid (Box W0.heap.size w7 g b1 b2 x) := by
          obtain ⟨vs, vw, m1, m2, h⟩ := HXr.out
          exact ⟨vs, vw, m1, m2, h.below HC7.out⟩
        have HR7 : Hid (Rbox W0.heap.size w7 gr x) := by
          obtain ⟨vh, vt, h⟩ := HRr.out
          exact ⟨vh, vt, h.below HC7.out⟩
        have HB7 := Lib.hid (HBL.out.trans (HC7.out.mono HBL.out.size))
        have PP := Lib.hid (put HX7.out y (.slice q4 yn c4) (Row.reads HV7.out) HYK.out (by have := HI.out; omega) HB7.out.size)
        obtain ⟨pf, hpf⟩ : ∃ pf, putF x y = pf := ⟨_, rfl⟩
        have HPF := Lib.hid hpf
        have HPW := Lib.hid (putF_wait x y)
        unfold PutIs at PP
        rw [hpf] at PP HPW
        clear hpf HC3 HC4 HC5 HC6 HT4 HT5 HT6 HV6 HS5 HRA
        go_upto_region 10 with (first
          | ((with_reducible refine wpl_loadAt rfl 45 (.tmp 6) rfl wr.heap.size 45 (row y (.slice q4 yn c4)).toArray HT7.out _ Try.underlying45 rfl (by kernel_rfl) ?_ ?_); rfl)
          | (go_at_call 16; go_must (refine PP.out.mono ?_; rintro e w8 ⟨va, rfl, hva, hx8, hbx8⟩; have HVA8 := Lib.hid hva; have HX8 := Lib.hid hx8; have HBX8 := Lib.hid hbx8; clear hva hx8 hbx8)))
        have HB8 := Lib.hid (HB7.out.trans (HBX8.out.below (B := W0.heap.size) HBXK.out HB7.out.size))
        have HR8 : Hid (Rbox W0.heap.size w8 gr x) := by
          obtain ⟨vh, vt, h⟩ := HR7.out
          exact ⟨vh, vt, h.butX HX7.out HBX8.out⟩
        have HRA8 := Lib.hid (range_below HRA0.out HB8.out HBLT.out)
        have PR := Lib.hid (rput HR8.out y (.slice pd yn md) (HYN.out ▸ HRD.out.below HB8.out) HYK.out (by have := HI.out; omega) HB8.out.size)
        unfold RPutIs at PR
        rw [HPF.out] at PR
        obtain ⟨er, her⟩ : ∃ er, pf.2.2 = er := ⟨_, rfl⟩
        rw [her] at PR ⊢
        clear her PP HX7 HR7 HB7 HT7 HV7 HC7 HBX8 HRA0 HXr HRr
        go_upto_region 11 with (first
          | ((with_reducible refine wpl_loadE rfl 45 (.tmp 45) rfl b (off + i * 7) ?_ (row y (.slice pd yn md)).toArray _ HRA8.out Try.underlying45 rfl (by kernel_rfl) ?_); rfl)
          | (go_at_call 17; go_must (refine PR.out.mono ?_; rintro e w9 ⟨vb, rfl, hvb, hr9, hx9⟩; have HVB9 := Lib.hid hvb; have HR9 := Lib.hid hr9; have HX9 := Lib.hid (box_butR HX8.out hx9); have HVA9 := Lib.hid (g_butR HVA8.out hx9); have HB9 := Lib.hid (HB8.out.trans (rx_ahead hx9 HB8.out.size)); clear hvb hr9 hx9)))
        obtain ⟨vh9, vt9, hrb9⟩ := HR9.out
        obtain ⟨ph, ch, hvh, _⟩ := hrb9.held.shape
        obtain ⟨hl, hhl⟩ : ∃ hl, pf.1.held.length = hl := ⟨_, rfl⟩
        rw [hhl] at hvh
        subst hvh
        have HC0 := Lib.hid (hrb9.row.cell 0)
        have HGL := Lib.hid hrb9.row.lt
        have HHL := Lib.hid hhl
        clear hrb9 hhl PR HR8 HRA8 HX8 HVA8
        refine Mono.wp_region_mono [some 50, some 51, some 52, some 53, some 54, some 55, some 56, some 57, some 58, some 59, some 60, some 61, some 62, some 63, some 64, some 65, some 66, some 67, some 68] [Mono.isV (va), Mono.isV (vb), Mono.isV (.bool true), Mono.isV (.bool false), Mono.isV (.bool false), Mono.isV (.int .i64 er), Mono.isV (.int .i64 er), Mono.isV (.bool false), Mono.isV (.bool false), Mono.isV (.bool false), Mono.isV (.pointer (some ⟨g, 0, none⟩)), Mono.isV (.int .i64 hl), Mono.isV (.pointer (some ⟨gr, 0, none⟩)), Mono.isV (.pointer (some ⟨gr, 0, none⟩)), Mono.isV (.pointer (some ⟨gr, 0, none⟩)), Mono.isV (.slice ph hl ch), Mono.isV (.int .i64 hl), Mono.isV (.bool false), Mono.isV (.bool false)] (by kernel_rfl) (by kernel_rfl) ?_ ?_
        · simp only [Mono.OpGoals, and_true]
          refine ⟨?_, ?_, ?_, ?_, ?_, ?_, ?_, ?_, ?_, ?_, ?_, ?_, ?_, ?_, ?_, ?_, ?_, ?_, ?_⟩
          · intro a u hbu hsu hdu
            have c0 := (hbu.cell (p := ⟨gr, 0, none⟩) HGL.out).trans HC0.out; simp [rbA] at c0
            refine Mono.if_want rfl ?_
            exact Mono.ok_move (.tmp 7) rfl (hsu 7 (by decide))
          · intro a u hbu hsu hdu
            have c0 := (hbu.cell (p := ⟨gr, 0, none⟩) HGL.out).trans HC0.out; simp [rbA] at c0
            refine Mono.if_want rfl ?_
            exact Mono.ok_move (.tmp 9) rfl (hsu 9 (by decide))
          · intro a u hbu hsu hdu
            have c0 := (hbu.cell (p := ⟨gr, 0, none⟩) HGL.out).trans HC0.out; simp [rbA] at c0
            refine Mono.if_want rfl ?_
            have z50 : a.eval (.tmp 50) = va := Mono.dep_at hdu (i := 0) (d := 50) rfl rfl rfl
            have z51 : a.eval (.tmp 51) = vb := Mono.dep_at hdu (i := 1) (d := 51) rfl rfl rfl
            simp [Act.eval] at z50 z51
            exact Mono.ok_call 18 _ _ rfl #[va, vb] (by simp [execOp, z50, z51, go_sem]) ((sameG _ _ va vb pf.2.1 u (OwnG.below HVA9.out hbu) (OwnG.below HVB9.out hbu)).mono (by rintro e w' ⟨rfl, h⟩; exact ⟨_, rfl, h, rfl⟩))
          · intro a u hbu hsu hdu
            have c0 := (hbu.cell (p := ⟨gr, 0, none⟩) HGL.out).trans HC0.out; simp [rbA] at c0
            refine Mono.if_want rfl ?_
            have z52 : a.eval (.tmp 52) = .bool true := Mono.dep_at hdu (i := 2) (d := 52) rfl rfl rfl
            simp [Act.eval] at z52
            exact Mono.ok_val (.bool false) (by simp [execOp, z52, go_sem, c0]) rfl
          · intro a u hbu hsu hdu
            have c0 := (hbu.cell (p := ⟨gr, 0, none⟩) HGL.out).trans HC0.out; simp [rbA] at c0
            refine Mono.if_want rfl ?_
            exact Mono.ok_move (.tmp 53) rfl (Mono.dep_at hdu (i := 3) (d := 53) rfl rfl rfl)
          · intro a u hbu hsu hdu
            have c0 := (hbu.cell (p := ⟨gr, 0, none⟩) HGL.out).trans HC0.out; simp [rbA] at c0
            refine Mono.if_want (Mono.want_at (c := false) rfl rfl (Mono.dep_at hdu (i := 4) (d := 54) rfl rfl rfl) rfl) ?_
            exact Mono.ok_move (.tmp 8) rfl (hsu 8 (by decide))
          · intro a u hbu hsu hdu
            have c0 := (hbu.cell (p := ⟨gr, 0, none⟩) HGL.out).trans HC0.out; simp [rbA] at c0
            refine Mono.if_want (Mono.want_at (c := false) rfl rfl (Mono.dep_at hdu (i := 4) (d := 54) rfl rfl rfl) rfl) ?_
            exact Mono.ok_move (.tmp 10) rfl (hsu 10 (by decide))
          · intro a u hbu hsu hdu
            have c0 := (hbu.cell (p := ⟨gr, 0, none⟩) HGL.out).trans HC0.out; simp [rbA] at c0
            refine Mono.if_want (Mono.want_at (c := false) rfl rfl (Mono.dep_at hdu (i := 4) (d := 54) rfl rfl rfl) rfl) ?_
            have z55 : a.eval (.tmp 55) = .int .i64 er := Mono.dep_at hdu (i := 5) (d := 55) rfl rfl rfl
            simp [Act.eval] at z55
            have z56 : a.eval (.tmp 56) = .int .i64 er := Mono.dep_at hdu (i := 6) (d := 56) rfl rfl rfl
            simp [Act.eval] at z56
            exact Mono.ok_val (.bool false) (by simp [execOp, z55, z56, go_sem, c0]) rfl
          · intro a u hbu hsu hdu
            have c0 := (hbu.cell (p := ⟨gr, 0, none⟩) HGL.out).trans HC0.out; simp [rbA] at c0
            refine Mono.if_want rfl ?_
            have z54 : a.eval (.tmp 54) = .bool false := Mono.dep_at hdu (i := 4) (d := 54) rfl rfl rfl
            simp [Act.eval] at z54
            have z57 : a.eval (.tmp 57) = .bool false := Mono.dep_at hdu (i := 7) (d := 57) rfl rfl rfl
            simp [Act.eval] at z57
            exact Mono.ok_val (.bool false) (by simp [execOp, z54, z57, go_sem, c0]) rfl
          · intro a u hbu hsu hdu
            have c0 := (hbu.cell (p := ⟨gr, 0, none⟩) HGL.out).trans HC0.out; simp [rbA] at c0
            refine Mono.if_want rfl ?_
            exact Mono.ok_move (.tmp 58) rfl (Mono.dep_at hdu (i := 8) (d := 58) rfl rfl rfl)
          · intro a u hbu hsu hdu
            have c0 := (hbu.cell (p := ⟨gr, 0, none⟩) HGL.out).trans HC0.out; simp [rbA] at c0
            refine Mono.if_want (Mono.want_at (c := false) rfl rfl (Mono.dep_at hdu (i := 9) (d := 59) rfl rfl rfl) rfl) ?_
            exact Mono.ok_move (.tmp 3) rfl (hsu 3 (by decide))
          · intro a u hbu hsu hdu
            have c0 := (hbu.cell (p := ⟨gr, 0, none⟩) HGL.out).trans HC0.out; simp [rbA] at c0
            refine Mono.if_want (Mono.want_at (c := false) rfl rfl (Mono.dep_at hdu (i := 9) (d := 59) rfl rfl rfl) rfl) ?_
            have z60 : a.eval (.tmp 60) = .pointer (some ⟨g, 0, none⟩) := Mono.dep_at hdu (i := 10) (d := 60) rfl rfl rfl
            simp [Act.eval] at z60
            exact Mono.ok_call 19 _ _ rfl #[.pointer (some ⟨g, 0, none⟩)] (by simp [execOp, z60, go_sem]) ((held (by obtain ⟨vs, vw, m1, m2, h⟩ := HX9.out; exact (⟨vs, vw, m1, m2, h.below hbu⟩ : Box W0.heap.size u g b1 b2 pf.1))).mono (by rintro e w' ⟨rfl, h⟩; exact ⟨_, rfl, h, by rw [HHL.out]; rfl⟩))
          · intro a u hbu hsu hdu
            have c0 := (hbu.cell (p := ⟨gr, 0, none⟩) HGL.out).trans HC0.out; simp [rbA] at c0
            refine Mono.if_want (Mono.want_at (c := false) rfl rfl (Mono.dep_at hdu (i := 9) (d := 59) rfl rfl rfl) rfl) ?_
            exact Mono.ok_move (.tmp 4) rfl (hsu 4 (by decide))
          · intro a u hbu hsu hdu
            have c0 := (hbu.cell (p := ⟨gr, 0, none⟩) HGL.out).trans HC0.out; simp [rbA] at c0
            refine Mono.if_want (Mono.want_at (c := false) rfl rfl (Mono.dep_at hdu (i := 9) (d := 59) rfl rfl rfl) rfl) ?_
            have z62 : a.eval (.tmp 62) = .pointer (some ⟨gr, 0, none⟩) := Mono.dep_at hdu (i := 12) (d := 62) rfl rfl rfl
            simp [Act.eval] at z62
            exact Mono.ok_val (.pointer (some ⟨gr, 0, none⟩)) (by simp [execOp, z62, go_sem, c0]) rfl
          · intro a u hbu hsu hdu
            have c0 := (hbu.cell (p := ⟨gr, 0, none⟩) HGL.out).trans HC0.out; simp [rbA] at c0
            refine Mono.if_want (Mono.want_at (c := false) rfl rfl (Mono.dep_at hdu (i := 9) (d := 59) rfl rfl rfl) rfl) ?_
            have z63 : a.eval (.tmp 63) = .pointer (some ⟨gr, 0, none⟩) := Mono.dep_at hdu (i := 13) (d := 63) rfl rfl rfl
            simp [Act.eval] at z63
            exact Mono.ok_val (.pointer (some ⟨gr, 0, none⟩)) (by simp [execOp, z63, go_sem, c0]) rfl
          · intro a u hbu hsu hdu
            have c0 := (hbu.cell (p := ⟨gr, 0, none⟩) HGL.out).trans HC0.out; simp [rbA] at c0
            refine Mono.if_want (Mono.want_at (c := false) rfl rfl (Mono.dep_at hdu (i := 9) (d := 59) rfl rfl rfl) rfl) ?_
            have z64 : a.eval (.tmp 64) = .pointer (some ⟨gr, 0, none⟩) := Mono.dep_at hdu (i := 14) (d := 64) rfl rfl rfl
            simp [Act.eval] at z64
            exact Mono.ok_val (.slice ph hl ch) (by simp [execOp, z64, go_sem, c0]) rfl
          · intro a u hbu hsu hdu
            have c0 := (hbu.cell (p := ⟨gr, 0, none⟩) HGL.out).trans HC0.out; simp [rbA] at c0
            refine Mono.if_want (Mono.want_at (c := false) rfl rfl (Mono.dep_at hdu (i := 9) (d := 59) rfl rfl rfl) rfl) ?_
            have z65 : a.eval (.tmp 65) = .slice ph hl ch := Mono.dep_at hdu (i := 15) (d := 65) rfl rfl rfl
            simp [Act.eval] at z65
            exact Mono.ok_val (.int .i64 hl) (by simp [execOp, z65, go_sem, c0]) rfl
          · intro a u hbu hsu hdu
            have c0 := (hbu.cell (p := ⟨gr, 0, none⟩) HGL.out).trans HC0.out; simp [rbA] at c0
            refine Mono.if_want (Mono.want_at (c := false) rfl rfl (Mono.dep_at hdu (i := 9) (d := 59) rfl rfl rfl) rfl) ?_
            have z61 : a.eval (.tmp 61) = .int .i64 hl := Mono.dep_at hdu (i := 11) (d := 61) rfl rfl rfl
            simp [Act.eval] at z61
            have z66 : a.eval (.tmp 66) = .int .i64 hl := Mono.dep_at hdu (i := 16) (d := 66) rfl rfl rfl
            simp [Act.eval] at z66
            exact Mono.ok_val (.bool false) (by simp [execOp, z61, z66, go_sem, c0]) rfl
          · intro a u hbu hsu hdu
            have c0 := (hbu.cell (p := ⟨gr, 0, none⟩) HGL.out).trans HC0.out; simp [rbA] at c0
            refine Mono.if_want rfl ?_
            have z59 : a.eval (.tmp 59) = .bool false := Mono.dep_at hdu (i := 9) (d := 59) rfl rfl rfl
            simp [Act.eval] at z59
            have z67 : a.eval (.tmp 67) = .bool false := Mono.dep_at hdu (i := 17) (d := 67) rfl rfl rfl
            simp [Act.eval] at z67
            exact Mono.ok_val (.bool false) (by simp [execOp, z59, z67, go_sem, c0]) rfl
        intro u hu
        simp only [Mono.Fin]
        rintro _ rfl _ rfl _ rfl _ rfl _ rfl _ rfl _ rfl _ rfl _ rfl _ rfl _ rfl _ rfl _ rfl _ rfl _ rfl _ rfl _ rfl _ rfl _ rfl
        simp [Act.put]
        go_wp2_with fail
        refine ⟨⟨i + 1, pf.1, by go_num, ⟨by omega, by omega, by have := HPW.out; have := HI.out; omega⟩, ?_, ?_, HB9.out.trans (hu.mono HB9.out.size)⟩, by simp [intOf]; omega⟩
        · obtain ⟨vs, vw, m1, m2, h⟩ := HX9.out
          exact ⟨vs, vw, m1, m2, h.below hu⟩
        · obtain ⟨vh, vt, h⟩ := HR9.out
          exact ⟨vh, vt, h.below hu⟩
      · have hl6z : ¬ (i : Int) < 60 := by omega
        have hl6b : decide ((i : Int) < 60) = false := decide_eq_false hl6z
        go_wp2_with (go_at_call 14; go_must (refine (Chunk.answers _).mono ?_; rintro e w9 ⟨rfl, hb9⟩; have HB9 := Lib.hid (HBL.out.trans (hb9.mono HBL.out.size)); clear hb9))
        go_ret
        exact ⟨rfl, HB9.out⟩
    · have hltz : ¬ (i : Int) < (N : Int) := by omega
      have hltb : decide ((i : Int) < (N : Int)) = false := decide_eq_false hltz
      go_wp2_with (go_at_call 14; go_must (refine (Chunk.answers _).mono ?_; rintro e w9 ⟨rfl, hb9⟩; have HB9 := Lib.hid (HBL.out.trans (hb9.mono HBL.out.size)); clear hb9))
      go_ret
      exact ⟨rfl, HB9.out⟩
end Go.Proofs.Yteiiifonejkjbaa.Rb
