/-
  Contract of the reference's box: turns (29).
-/
import Derived.Test.YteiiifonejkjbaaRbox5
namespace Go.Proofs.Yteiiifonejkjbaa.Rb
open Go.RowKit Mem Cells Ops Pcs Go.Maps Go.Proofs.Yteiiifonejkjbaa.Open Go.Proofs.Yteiiifonejkjbaa.Bx
set_option linter.unusedVariables false
set_option linter.unusedSimpArgs false
attribute [local go_sem] Oper.semAt_some

def TurnsIs (Z : Nat) (w : World) (g : Nat) (vh : Value) (x : S) (s : Nat) : Ending → World → Prop := fun e w' => ∃ v vt, e = .returned v ∧ OwnG w.heap.size w' v (readyF (x.wait.length + 1) x.wait x.next s []).2.2 ∧
  RB Z w' g vh vt { x with wait := (readyF (x.wait.length + 1) x.wait x.next s []).1, next := (readyF (x.wait.length + 1) x.wait x.next s []).2.1 } ∧ ButX (RX Z w) w w'
set_option maxRecDepth 100000 in
set_option maxHeartbeats 16000000 in
theorem turns29 {w : World} {Z g : Nat} {vh vt : Value} {x : S} (H : RB Z w g vh vt x) (s : Nat) (hs : s < 8) (hlen : x.wait.length ≤ 999999) (hZ : Z ≤ w.heap.size) :
    Calls Try.prog 29 #[.pointer (some ⟨g, 0, none⟩), .int .u16 s] w (TurnsIs Z w g vh x s) := by
  obtain ⟨W0, hW0⟩ : ∃ W0, w = W0 := ⟨w, rfl⟩
  rw [hW0] at H hZ ⊢
  obtain ⟨N, hN⟩ : ∃ N, x.wait.length = N := ⟨_, rfl⟩
  have HN := Lib.hid hN
  have HH := Lib.hid H
  have HZ := Lib.hid hZ
  have HS := Lib.hid hs
  have s8 : (s : Int) < 8 := by omega
  have s0 : (0 : Int) ≤ (s : Int) := by omega
  rw [hN] at hlen
  clear hW0 H hZ hN
  go_enter Try.func29, Try.ntmps29
  go_upto_region 3 with fail
  go_loopw [5, 6] (fun v5 v6 wr => ∃ (f : Bool) (l : List T) (nx : Nat → Int) (out : List G) (vt : Value), v6 = .bool f ∧ Hid (OwnG W0.heap.size wr v5 out) ∧ Hid (RB Z wr g vh vt { x with wait := l, next := nx }) ∧ Hid (ButX (RX Z W0) W0 wr) ∧ Hid (out.length + l.length = N) ∧
    Hid (readyF (x.wait.length + 1) x.wait x.next s [] = if f = true then readyF (l.length + 1) l nx s out else (l, nx, out))) (fun v5 v6 _ => if boolV v6 = true then N + 1 - lenV v5 else 0)
  case atStart => exact ⟨true, x.wait, x.next, [], vt, rfl, OwnG.nil _ _, HH.out, ButX.refl _ _, by show _ = _; rw [← HN.out]; simp, rfl⟩
  case round =>
    clear HH
    obtain ⟨f, l, nx, out, vt, rfl, HO, HB, HX, HL, HF⟩ := hrel
    cases f with
    | false =>
      have HF2 := Lib.hid (show readyF (x.wait.length + 1) x.wait x.next s [] = (l, nx, out) from HF.out)
      go_wp2_with fail
      go_ret
      unfold TurnsIs
      rw [HF2.out]
      exact ⟨_, vt, rfl, HO.out, HB.out, HX.out⟩
    | true =>
      have HF2 := Lib.hid (show readyF (x.wait.length + 1) x.wait x.next s [] = readyF (l.length + 1) l nx s out from HF.out)
      obtain ⟨on, hon⟩ : ∃ on, out.length = on := ⟨_, rfl⟩
      have HON := Lib.hid hon
      have hle : on ≤ N := by have := HL.out; omega
      have hlv : lenV u5 = on := by obtain ⟨p, c, e, _⟩ := HO.out.shape; rw [e, hon]; rfl
      have HLV := Lib.hid hlv
      clear hon hlv HF
      go_upto_region 6 with fail
      go_loopw [5, 6, 7] (fun v5 v6 v7 wr => ∃ (f : Bool) (i : Nat) (l : List T) (nx : Nat → Int) (out : List G) (vt : Value), v6 = .bool f ∧ v7 = .int .i64 (i : Int) ∧ Hid (OwnG W0.heap.size wr v5 out) ∧ Hid (RB Z wr g vh vt { x with wait := l, next := nx }) ∧ Hid (ButX (RX Z W0) W0 wr) ∧ Hid (out.length + l.length = N) ∧
        Hid (readyF (x.wait.length + 1) x.wait x.next s [] = readyF (l.length + 1) l nx s out) ∧ Hid (if f = true then out.length = on + 1 else (out.length = on ∧ i ≤ l.length ∧ ∀ j : Nat, j < i → ∀ b, l[j]? = some b → ¬ (b.s = (s : Int) ∧ b.q = nx s)))) (fun v5 v6 v7 _ => if boolV v6 = true then 0 else N - lenV v5 - (intOf v7).toNat + 1)
      case atStart => exact ⟨false, 0, l, nx, out, vt, rfl, rfl, HO.out, HB.out, HX.out, HL.out, HF2.out, ⟨HON.out, Nat.zero_le _, fun j hj => absurd hj (Nat.not_lt_zero j)⟩⟩
      case round =>
        clear HO HB HX HL HF2 HON
        obtain ⟨f, i, l, nx, out, vt, rfl, rfl, HO, HB, HX, HL, HF, HI⟩ := hrel
        obtain ⟨m, hm⟩ : ∃ m, l.length = m := ⟨_, rfl⟩
        have HM := Lib.hid hm
        have hm63 : m ≤ 999999 := by have := HL.out; omega
        obtain ⟨pt, ct, hvt, hmc, hct⟩ := HB.out.wait.shape
        dsimp only at hvt hmc
        rw [hm] at hvt hmc
        subst hvt
        have c1 := HB.out.row.cell 1
        simp [rbA] at c1
        clear hm
        cases f with
        | true =>
          have HI2 := Lib.hid (show out.length = on + 1 from HI.out)
          have hn1 : lenV u5 = on + 1 := by obtain ⟨p, c, e, _⟩ := HO.out.shape; rw [e, HI2.out]; rfl
          have HN1 := Lib.hid hn1
          have HON1 := Lib.hid (show on + 1 ≤ N by have := HL.out; have := HI2.out; omega)
          clear hn1
          by_cases hlt : i < m
          · have hltz : (i : Int) < (m : Int) := by omega
            have hltb : decide ((i : Int) < (m : Int)) = true := decide_eq_true hltz
            go_wp2_with fail
            refine ⟨⟨true, l, nx, out, _, rfl, HO.out, HB.out, HX.out, HL.out, HF.out⟩, ?_⟩
            have h1 := HLV.out
            have h2 := HN1.out
            have h3 := HON1.out
            simp [boolV]
            omega
          · have hltz : ¬ (i : Int) < (m : Int) := by omega
            have hltb : decide ((i : Int) < (m : Int)) = false := decide_eq_false hltz
            go_wp2_with fail
            refine ⟨⟨true, l, nx, out, _, rfl, HO.out, HB.out, HX.out, HL.out, HF.out⟩, ?_⟩
            have h1 := HLV.out
            have h2 := HN1.out
            have h3 := HON1.out
            simp [boolV]
            omega
        | false =>
          obtain ⟨hI1, hI2, hI3⟩ : out.length = on ∧ i ≤ l.length ∧ ∀ j : Nat, j < i → ∀ b, l[j]? = some b → ¬ (b.s = (s : Int) ∧ b.q = nx s) := HI.out
          by_cases hlt : i < m
          · have hltz : (i : Int) < (m : Int) := by omega
            have hltb : decide ((i : Int) < (m : Int)) = true := decide_eq_true hltz
            obtain ⟨y, hy⟩ : ∃ y, l[i]? = some y := ⟨l[i]'(by rw [HM.out]; exact hlt), by simp⟩
            obtain ⟨q, c, pd, md, hv, hkl, hlc, hql, hra, hrow⟩ := HB.out.atW hy
            dsimp only at hv hkl hlc
            rw [HM.out] at hv hkl hlc
            simp only [Value.slice.injEq, true_and] at hv
            obtain ⟨rfl, rfl⟩ := hv
            obtain ⟨yd, hyd⟩ : ∃ yd, y.data.length = yd := ⟨_, rfl⟩
            obtain ⟨n, hn⟩ : ∃ n, nx s = n := ⟨_, rfl⟩
            rw [hyd] at hra hrow
            have HRA := Lib.hid hra
            have HYD := Lib.hid hyd
            have HNN := Lib.hid hn
            have HY := Lib.hid hy
            have HI3 := Lib.hid hI3
            have HI1 := Lib.hid hI1
            have HROW := Lib.hid (Row.mono hrow (Nat.zero_le Z))
            have HQL := Lib.hid hql
            clear hy hra hrow hyd hn hI3 hI1 hql hI2 hkl
            go_upto_region 9 with (first
              | ((with_reducible refine wpl_loadE rfl 85 (.tmp 29) rfl q (i * 3) ?_ (rowT y (.slice pd yd md)).toArray _ HRA.out Try.underlying85 rfl (by kernel_rfl) ?_); rfl)
              | ((with_reducible refine wpl_allocAt rfl 85 rfl #[.int .u16 0, .int .u16 0, .slice none 0 0] (by kernel_rfl) ?_); go_must (intro w2 hat2 hb2 hs2; have HB2 := Lib.hid hb2; clear hb2 hs2))
              | ((with_reducible refine wpl_storeR rfl 85 (.tmp 8) (.tmp 30) rfl rfl wr.heap.size 85 #[.int .u16 0, .int .u16 0, .slice none 0 0] (rowT y (.slice pd yd md)).toArray ?_ ?_ hat2 (by kernel_rfl) ?_ ?_ ?_); rfl; rfl; rfl; (simp [Value.oneCell', rowT]); go_must (intro w3 hat3 hg3; have HA3 := Lib.hid hat3; have HB3 := Lib.hid (HB2.out.grown hg3 HB2.out.size (fun q e => by cases e; exact Nat.le_refl _)); clear hat2 hat3 hg3)))
            have HBX := Lib.hid (HB.out.below HB3.out)
            have HO3 := Lib.hid (OwnG.below HO.out HB3.out)
            have HX3 := Lib.hid (rx_below HX.out HB3.out)
            have HROW3 := Lib.hid (Row.below HROW.out HB3.out)
            have HLTA := Lib.hid HB3.out.size
            clear c1
            have p2 := HBX.out.row.cell (2 + s)
            rw [rbA_get _ _ _ _ hs] at p2
            have p2' : w3.cell? ⟨g, 2 + s, none⟩ = some (.int .u16 n) := by rw [← HNN.out]; exact p2
            have HP2 := Lib.hid p2'
            have HPL := Lib.hid HBX.out.row.lt
            clear p2 p2' HB HO HX HB2 HROW
            have hfin : Hid (∀ _ : ¬ (y.s = (s : Int) ∧ y.q = nx s), ∀ j : Nat, j < i + 1 → ∀ b, l[j]? = some b → ¬ (b.s = (s : Int) ∧ b.q = nx s)) := by
              intro hne j hj b hb
              by_cases e : j = i
              · subst e; rw [HY.out] at hb; cases hb; exact hne
              · exact HI3.out j (by omega) b hb
            have hlu : Hid (lenV u5 = on) := by obtain ⟨p, c, e, _⟩ := HO3.out.shape; show lenV u5 = on; rw [e, HI1.out]; rfl
            by_cases e1 : y.s = (s : Int)
            · have e1b : (y.s == (s : Int)) = true := by simpa using e1
              by_cases e2 : y.q = n
              · have e2b : (y.q == n) = true := by simpa using e2
                have HE := Lib.hid (And.intro e1 e2)
                clear e1 e2
                refine Mono.wp_region_mono [some 31, some 32, some 33, some 34, some 35, some 36, some 37, some 38, some 39, some 40, some 41, some 42, some 43, some 44, some 45] [Mono.isV (.pointer (some ⟨wr.heap.size, 0, none⟩)), Mono.isV (.int .u16 y.s), Mono.isV (.int .u16 (s : Int)), Mono.isV (.bool true), Mono.isV (.bool true), Mono.isV (.pointer (some ⟨wr.heap.size, 1, none⟩)), Mono.isV (.int .u16 y.q), Mono.isV (.pointer (some ⟨g, 0, none⟩)), Mono.isV (.int .u16 (s : Int)), Mono.isV (.pointer (some ⟨g, 0, none⟩)), Mono.isV (.pointer (some ⟨g, 2, none⟩)), Mono.isV (.pointer (some ⟨g, 2 + s, none⟩)), Mono.isV (.int .u16 n), Mono.isV (.bool true), Mono.isV (.bool true)] (by kernel_rfl) (by kernel_rfl) ?_ ?_
                · simp only [Mono.OpGoals, and_true]
                  refine ⟨?_, ?_, ?_, ?_, ?_, ?_, ?_, ?_, ?_, ?_, ?_, ?_, ?_, ?_, ?_⟩
                  · intro a u hbu hsu hdu
                    have A3 := HA3.out.ext hbu; have m0 := A3.cell 0; have m1 := A3.cell 1; have p2 := (hbu.cell (p := ⟨g, 2 + s, none⟩) HPL.out).trans HP2.out; simp [rowT] at m0 m1
                    refine Mono.if_want rfl ?_
                    have z8 : a.eval (.tmp 8) = .pointer (some ⟨wr.heap.size, 0, none⟩) := hsu 8 (by decide)
                    simp [Act.eval] at z8
                    exact Mono.ok_val (.pointer (some ⟨wr.heap.size, 0, none⟩)) (by simp [execOp, z8, go_sem, m0, m1, p2, e1b, e2b, s8, s0]) rfl
                  · intro a u hbu hsu hdu
                    have A3 := HA3.out.ext hbu; have m0 := A3.cell 0; have m1 := A3.cell 1; have p2 := (hbu.cell (p := ⟨g, 2 + s, none⟩) HPL.out).trans HP2.out; simp [rowT] at m0 m1
                    refine Mono.if_want rfl ?_
                    have z31 : a.eval (.tmp 31) = .pointer (some ⟨wr.heap.size, 0, none⟩) := Mono.dep_at hdu (i := 0) (d := 31) rfl rfl rfl
                    simp [Act.eval] at z31
                    exact Mono.ok_val (.int .u16 y.s) (by simp [execOp, z31, go_sem, m0, m1, p2, e1b, e2b, s8, s0]) rfl
                  · intro a u hbu hsu hdu
                    have A3 := HA3.out.ext hbu; have m0 := A3.cell 0; have m1 := A3.cell 1; have p2 := (hbu.cell (p := ⟨g, 2 + s, none⟩) HPL.out).trans HP2.out; simp [rowT] at m0 m1
                    refine Mono.if_want rfl ?_
                    exact Mono.ok_move (.tmp 1) rfl (hsu 1 (by decide))
                  · intro a u hbu hsu hdu
                    have A3 := HA3.out.ext hbu; have m0 := A3.cell 0; have m1 := A3.cell 1; have p2 := (hbu.cell (p := ⟨g, 2 + s, none⟩) HPL.out).trans HP2.out; simp [rowT] at m0 m1
                    refine Mono.if_want rfl ?_
                    have z32 : a.eval (.tmp 32) = .int .u16 y.s := Mono.dep_at hdu (i := 1) (d := 32) rfl rfl rfl
                    simp [Act.eval] at z32
                    have z33 : a.eval (.tmp 33) = .int .u16 (s : Int) := Mono.dep_at hdu (i := 2) (d := 33) rfl rfl rfl
                    simp [Act.eval] at z33
                    exact Mono.ok_val (.bool true) (by simp [execOp, z32, z33, go_sem, m0, m1, p2, e1b, e2b, s8, s0]) rfl
                  · intro a u hbu hsu hdu
                    have A3 := HA3.out.ext hbu; have m0 := A3.cell 0; have m1 := A3.cell 1; have p2 := (hbu.cell (p := ⟨g, 2 + s, none⟩) HPL.out).trans HP2.out; simp [rowT] at m0 m1
                    refine Mono.if_want rfl ?_
                    exact Mono.ok_move (.tmp 34) rfl (Mono.dep_at hdu (i := 3) (d := 34) rfl rfl rfl)
                  · intro a u hbu hsu hdu
                    have A3 := HA3.out.ext hbu; have m0 := A3.cell 0; have m1 := A3.cell 1; have p2 := (hbu.cell (p := ⟨g, 2 + s, none⟩) HPL.out).trans HP2.out; simp [rowT] at m0 m1
                    refine Mono.if_want (Mono.want_at (c := true) rfl rfl (Mono.dep_at hdu (i := 4) (d := 35) rfl rfl rfl) rfl) ?_
                    have z8 : a.eval (.tmp 8) = .pointer (some ⟨wr.heap.size, 0, none⟩) := hsu 8 (by decide)
                    simp [Act.eval] at z8
                    exact Mono.ok_val (.pointer (some ⟨wr.heap.size, 1, none⟩)) (by simp [execOp, z8, go_sem, m0, m1, p2, e1b, e2b, s8, s0]) rfl
                  · intro a u hbu hsu hdu
                    have A3 := HA3.out.ext hbu; have m0 := A3.cell 0; have m1 := A3.cell 1; have p2 := (hbu.cell (p := ⟨g, 2 + s, none⟩) HPL.out).trans HP2.out; simp [rowT] at m0 m1
                    refine Mono.if_want (Mono.want_at (c := true) rfl rfl (Mono.dep_at hdu (i := 4) (d := 35) rfl rfl rfl) rfl) ?_
                    have z36 : a.eval (.tmp 36) = .pointer (some ⟨wr.heap.size, 1, none⟩) := Mono.dep_at hdu (i := 5) (d := 36) rfl rfl rfl
                    simp [Act.eval] at z36
                    exact Mono.ok_val (.int .u16 y.q) (by simp [execOp, z36, go_sem, m0, m1, p2, e1b, e2b, s8, s0]) rfl
                  · intro a u hbu hsu hdu
                    have A3 := HA3.out.ext hbu; have m0 := A3.cell 0; have m1 := A3.cell 1; have p2 := (hbu.cell (p := ⟨g, 2 + s, none⟩) HPL.out).trans HP2.out; simp [rowT] at m0 m1
                    refine Mono.if_want (Mono.want_at (c := true) rfl rfl (Mono.dep_at hdu (i := 4) (d := 35) rfl rfl rfl) rfl) ?_
                    exact Mono.ok_move (.tmp 0) rfl (hsu 0 (by decide))
                  · intro a u hbu hsu hdu
                    have A3 := HA3.out.ext hbu; have m0 := A3.cell 0; have m1 := A3.cell 1; have p2 := (hbu.cell (p := ⟨g, 2 + s, none⟩) HPL.out).trans HP2.out; simp [rowT] at m0 m1
                    refine Mono.if_want (Mono.want_at (c := true) rfl rfl (Mono.dep_at hdu (i := 4) (d := 35) rfl rfl rfl) rfl) ?_
                    exact Mono.ok_move (.tmp 1) rfl (hsu 1 (by decide))
                  · intro a u hbu hsu hdu
                    have A3 := HA3.out.ext hbu; have m0 := A3.cell 0; have m1 := A3.cell 1; have p2 := (hbu.cell (p := ⟨g, 2 + s, none⟩) HPL.out).trans HP2.out; simp [rowT] at m0 m1
                    refine Mono.if_want (Mono.want_at (c := true) rfl rfl (Mono.dep_at hdu (i := 4) (d := 35) rfl rfl rfl) rfl) ?_
                    have z38 : a.eval (.tmp 38) = .pointer (some ⟨g, 0, none⟩) := Mono.dep_at hdu (i := 7) (d := 38) rfl rfl rfl
                    simp [Act.eval] at z38
                    exact Mono.ok_val (.pointer (some ⟨g, 0, none⟩)) (by simp [execOp, z38, go_sem, m0, m1, p2, e1b, e2b, s8, s0]) rfl
                  · intro a u hbu hsu hdu
                    have A3 := HA3.out.ext hbu; have m0 := A3.cell 0; have m1 := A3.cell 1; have p2 := (hbu.cell (p := ⟨g, 2 + s, none⟩) HPL.out).trans HP2.out; simp [rowT] at m0 m1
                    refine Mono.if_want (Mono.want_at (c := true) rfl rfl (Mono.dep_at hdu (i := 4) (d := 35) rfl rfl rfl) rfl) ?_
                    have z40 : a.eval (.tmp 40) = .pointer (some ⟨g, 0, none⟩) := Mono.dep_at hdu (i := 9) (d := 40) rfl rfl rfl
                    simp [Act.eval] at z40
                    exact Mono.ok_val (.pointer (some ⟨g, 2, none⟩)) (by simp [execOp, z40, go_sem, m0, m1, p2, e1b, e2b, s8, s0]) rfl
                  · intro a u hbu hsu hdu
                    have A3 := HA3.out.ext hbu; have m0 := A3.cell 0; have m1 := A3.cell 1; have p2 := (hbu.cell (p := ⟨g, 2 + s, none⟩) HPL.out).trans HP2.out; simp [rowT] at m0 m1
                    refine Mono.if_want (Mono.want_at (c := true) rfl rfl (Mono.dep_at hdu (i := 4) (d := 35) rfl rfl rfl) rfl) ?_
                    have z41 : a.eval (.tmp 41) = .pointer (some ⟨g, 2, none⟩) := Mono.dep_at hdu (i := 10) (d := 41) rfl rfl rfl
                    simp [Act.eval] at z41
                    have z39 : a.eval (.tmp 39) = .int .u16 (s : Int) := Mono.dep_at hdu (i := 8) (d := 39) rfl rfl rfl
                    simp [Act.eval] at z39
                    exact Mono.ok_val (.pointer (some ⟨g, 2 + s, none⟩)) (by simp [execOp, z41, z39, go_sem, m0, m1, p2, e1b, e2b, s8, s0]) rfl
                  · intro a u hbu hsu hdu
                    have A3 := HA3.out.ext hbu; have m0 := A3.cell 0; have m1 := A3.cell 1; have p2 := (hbu.cell (p := ⟨g, 2 + s, none⟩) HPL.out).trans HP2.out; simp [rowT] at m0 m1
                    refine Mono.if_want (Mono.want_at (c := true) rfl rfl (Mono.dep_at hdu (i := 4) (d := 35) rfl rfl rfl) rfl) ?_
                    have z42 : a.eval (.tmp 42) = .pointer (some ⟨g, 2 + s, none⟩) := Mono.dep_at hdu (i := 11) (d := 42) rfl rfl rfl
                    simp [Act.eval] at z42
                    exact Mono.ok_val (.int .u16 n) (by simp [execOp, z42, go_sem, m0, m1, p2, e1b, e2b, s8, s0]) rfl
                  · intro a u hbu hsu hdu
                    have A3 := HA3.out.ext hbu; have m0 := A3.cell 0; have m1 := A3.cell 1; have p2 := (hbu.cell (p := ⟨g, 2 + s, none⟩) HPL.out).trans HP2.out; simp [rowT] at m0 m1
                    refine Mono.if_want (Mono.want_at (c := true) rfl rfl (Mono.dep_at hdu (i := 4) (d := 35) rfl rfl rfl) rfl) ?_
                    have z37 : a.eval (.tmp 37) = .int .u16 y.q := Mono.dep_at hdu (i := 6) (d := 37) rfl rfl rfl
                    simp [Act.eval] at z37
                    have z43 : a.eval (.tmp 43) = .int .u16 n := Mono.dep_at hdu (i := 12) (d := 43) rfl rfl rfl
                    simp [Act.eval] at z43
                    exact Mono.ok_val (.bool true) (by simp [execOp, z37, z43, go_sem, m0, m1, p2, e1b, e2b, s8, s0]) rfl
                  · intro a u hbu hsu hdu
                    have A3 := HA3.out.ext hbu; have m0 := A3.cell 0; have m1 := A3.cell 1; have p2 := (hbu.cell (p := ⟨g, 2 + s, none⟩) HPL.out).trans HP2.out; simp [rowT] at m0 m1
                    refine Mono.if_want rfl ?_
                    have z35 : a.eval (.tmp 35) = .bool true := Mono.dep_at hdu (i := 4) (d := 35) rfl rfl rfl
                    simp [Act.eval] at z35
                    have z44 : a.eval (.tmp 44) = .bool true := Mono.dep_at hdu (i := 13) (d := 44) rfl rfl rfl
                    simp [Act.eval] at z44
                    exact Mono.ok_val (.bool true) (by simp [execOp, z35, z44, go_sem, m0, m1, p2, e1b, e2b, s8, s0]) rfl
                intro u hu
                simp only [Mono.Fin]
                rintro _ rfl _ rfl _ rfl _ rfl _ rfl _ rfl _ rfl _ rfl _ rfl _ rfl _ rfl _ rfl _ rfl _ rfl _ rfl
                simp [Act.put]
                have HB4 := Lib.hid (HBX.out.below hu)
                have HO4 := Lib.hid (OwnG.below HO3.out hu)
                have HX4 := Lib.hid (rx_below HX3.out hu)
                have HROW4 := Lib.hid (Row.below HROW3.out hu)
                have HA4 := Lib.hid (HA3.out.ext hu)
                have m2 := HA4.out.cell 2
                simp [rowT] at m2
                have HSZ := Lib.hid HX4.out.size
                clear hu
                go_upto_region 12 with ((with_reducible refine wpl_pushG 51 (.tmp 50) (.tmp 46) rfl rfl rfl rfl rfl rfl ⟨s, y.data⟩ (.slice pd yd md) ?_ W0.heap.size u5 out ?_ ?_ HO4.out HROW4.out ?_ ?_ ?_); rfl; (intro u; rfl); (intro u; rfl); exact HSZ.out; (have := HI1.out; omega); go_must (intro v4 w4 hq4 hg4; have HG4 := Lib.hid hg4; have HQ4 := Lib.hid hq4; clear hq4 hg4))
                obtain ⟨zo, ho⟩ := OwnG.own HO4.out
                have hB5 := HB4.out.own HG4.out ho (not_rt (by decide) (by decide) (by decide)) (by decide)
                have hX5 := rx_grow HX4.out HG4.out ho (Nat.le_refl _)
                have hZ5 : Z ≤ w4.heap.size := Nat.le_trans HZ.out hX5.size
                obtain ⟨v1, w5, hrun1, hb5, A, hA, p2, c2, w6, hrun2, hb6, hT6⟩ := cutT (k := i) hB5.wait HM.out hlt (by omega) hZ5
                have hi0 : (0 : Int) ≤ (i : Int) := by omega
                have hi0n : ¬ (i : Int) < (0 : Int) := by omega
                have R59 := Lib.hid (fun u => show (Instr.sliceAt 54 (.slice (some ⟨q, 0, none⟩) m ct) none (some (.int .i64 i)) none).run Try.prog u = .ok (.slice (some ⟨q, 0, none⟩) i ct) u by
                  rw [run_h54 _ _ _ _ _ (by omega) (by omega)]
                  unfold sliced
                  simp [Addr.add, show ¬ ct = 0 by omega])
                have R69 := Lib.hid (fun u => show (Instr.sliceAt 54 (.slice (some ⟨q, 0, none⟩) m ct) (some (.int .i64 ((i : Int) + 1))) none none).run Try.prog u = .ok (.slice (some A) (m - (i + 1)) (ct - (i + 1))) u by
                  rw [run_l54 _ _ _ _ _ (by omega) (by omega), show ((i : Int) + 1).toNat = i + 1 from by omega, hA])
                obtain ⟨m3, hm3⟩ : ∃ m3, m - 1 = m3 := ⟨_, rfl⟩
                obtain ⟨m4, hm4⟩ : ∃ m4, m - (i + 1) = m4 := ⟨_, rfl⟩
                obtain ⟨m5, hm5⟩ : ∃ m5, ct - (i + 1) = m5 := ⟨_, rfl⟩
                rw [hm4, hm5] at R69 hrun2
                rw [hm3] at hrun2 hT6
                have c1 := hB5.row.cell 1
                have c15 := (hB5.row.ext hb5).cell 1
                simp [rbA] at c1 c15
                have HB5 := Lib.hid hB5
                have HX5 := Lib.hid hX5
                have HRUN1 := Lib.hid hrun1
                have HRUN2 := Lib.hid hrun2
                have HB6 := Lib.hid hb6
                have HT6 := Lib.hid hT6
                have HROW6 := Lib.hid (show At w6 g 56 (rbA vh (.slice (some ⟨q, 0, none⟩) m ct) nx) from hB5.row.ext hb6)
                have hQ6 := OwnG.below HQ4.out hb6
                have HQ6 := Lib.hid hQ6
                have HX6 := Lib.hid (rx_below hX5 hb6)
                clear ho hB5 hX5 hZ5 hrun1 hb5 hA hrun2 hb6 hT6 hm3 hm4 hm5 hQ6 m2 HB4 HO4 HX4 HROW4 HA4 HA3 HBX HO3 HX3 HROW3
                go_upto_region 13 with (first
                  | ((with_reducible refine wpl_sliceV rfl 54 _ _ _ _ rfl (.slice (some ⟨q, 0, none⟩) m ct) (.slice (some ⟨q, 0, none⟩) i ct) none (some (.int .i64 i)) none ?_ ?_ ?_ ?_ (R59.out _) ?_); rfl; rfl; rfl; rfl)
                  | ((with_reducible refine Pcs.wpl_appendV rfl 54 (.tmp 53) (.tmp 59) rfl (.slice none 0 0) (.slice (some ⟨q, 0, none⟩) i ct) v1 w5 ?_ ?_ HRUN1.out ?_); rfl; rfl; clear c1))
                have c1 := c15
                clear c15
                go_upto_region 14 with (first
                  | ((with_reducible refine wpl_sliceV rfl 54 _ _ _ _ rfl (.slice (some ⟨q, 0, none⟩) m ct) (.slice (some A) m4 m5) (some (.int .i64 ((i : Int) + 1))) none none ?_ ?_ ?_ ?_ (R69.out _) ?_); rfl; rfl; rfl; rfl)
                  | ((with_reducible refine Pcs.wpl_appendV rfl 54 (.tmp 62) (.tmp 69) rfl v1 (.slice (some A) m4 m5) (.slice p2 m3 c2) w6 ?_ ?_ HRUN2.out ?_); rfl; rfl; clear c1)
                  | ((with_reducible refine wpl_storeC rfl 54 (.tmp 72) (.tmp 70) rfl rfl g 1 56 (rbA vh (.slice (some ⟨q, 0, none⟩) m ct) nx) (rbA vh (.slice p2 m3 c2) nx) (.slice p2 m3 c2) ?_ ?_ HROW6.out ?_ (by kernel_rfl) ?_ ?_ ?_); rfl; rfl; exact (show (1 : Nat) < 10 by decide); rfl; rfl; go_must (intro w7 hat7 hg7; have HAT7 := Lib.hid hat7; have HG7 := Lib.hid hg7; clear hat7 hg7)))
                have hys := HE.out.1
                have hyq : y.q = nx s := HE.out.2.trans HNN.out.symm
                have hcut : rmW l s (nx s) = l.take i ++ l.drop (i + 1) := by
                  have h1 := rmW_at (h := l) HB5.out.ok.2.1.1 HY.out
                  rw [hys, hyq] at h1
                  exact h1
                have hT6 := HT6.out
                rw [← hcut] at hT6
                have hok7 : S.ok { x with wait := rmW l s (nx s), next := nx } := S.ok_rmW (x := { x with wait := l, next := nx }) HB5.out.ok s (nx s)
                have hB7 := HB5.out.setT HB6.out hT6 HG7.out HAT7.out hok7
                have hQ7 := OwnG.turn HQ6.out HG7.out HROW6.out (by decide) (by decide)
                have hX7 := rx_step HX6.out HG7.out HROW6.out (.inl rfl) hB7.le
                have p2 := hB7.row.cell (2 + s)
                rw [rbA_get _ _ _ _ hs] at p2
                have p2' : w7.cell? ⟨g, 2 + s, none⟩ = some (.int .u16 n) := by rw [← HNN.out]; exact p2
                have HB7 := Lib.hid hB7
                have HQ7 := Lib.hid hQ7
                have HX7 := Lib.hid hX7
                clear hys hyq hcut hT6 hok7 hB7 hQ7 hX7 p2
                go_still_tail 10, (by kernel_rfl)
                change wpList _ _ _ _ _ w7.drew
                have hbd : Below w7.heap.size w7 w7.drew := (Below.refl _ _).drew
                have HB8 := Lib.hid (HB7.out.below hbd)
                have HQ8 := Lib.hid (OwnG.below HQ7.out hbd)
                have HX8 := Lib.hid (rx_below HX7.out hbd)
                generalize w7.drew = w8 at HB8 HQ8 HX8 ⊢
                clear hbd p2' HB7 HQ7 HX7
                go_wp2_with ((with_reducible refine wpl_storeC rfl 26 (.tmp 82) (.tmp 79) rfl rfl g (2 + s) 56 (rbA vh (.slice p2 m3 c2) nx) (rbA vh (.slice p2 m3 c2) (Chunk.upd nx s (nx16 n))) (.int .u16 (nx16 n)) ?_ ?_ HB8.out.row ?_ (by kernel_rfl) ?_ ?_ ?_); rfl; rfl; exact (show 2 + s < 10 by omega); rfl; exact rbA_set _ _ nx s hs _; go_must (intro w9 hat9 hg9; have HB9 := Lib.hid (HB8.out.setNext s (nx16 n) (u16_wrap _) hat9 hg9); have HQ9 := Lib.hid (OwnG.turn HQ8.out hg9 HB8.out.row (by decide) (by decide)); have HX9 := Lib.hid (rx_step HX8.out hg9 HB8.out.row (.inl rfl) HB8.out.le); clear hat9 hg9))
                have hok := HB5.out.ok.2.1.1
                have hyy : getW l (s : Int) (nx s) = some y := by
                  have h1 := getW_at (h := l) HY.out (fun j hj b hb => by rw [HE.out.1, HE.out.2, ← HNN.out]; exact HI3.out j hj b hb)
                  rw [HE.out.1, HE.out.2, ← HNN.out] at h1
                  exact h1
                have hl1 : (rmW l s (nx s)).length + 1 = l.length := rmW_length hok hyy
                have hl2 : out.length + l.length = N := HL.out
                have hf := HF.out.trans (ready_some hok hyy)
                have hb9 := HB9.out
                rw [← HNN.out] at hb9
                refine ⟨⟨true, i + 1, rmW l s (nx s), Chunk.upd nx s (nx16 (nx s)), out ++ [(⟨(s : Int), y.data⟩ : G)], _, rfl, by go_num, HQ9.out, hb9, HX9.out, ?_, hf, ?_⟩, ?_⟩
                · show _ = _
                  rw [List.length_append, List.length_singleton]; omega
                · show (out ++ [(⟨(s : Int), y.data⟩ : G)]).length = on + 1
                  rw [List.length_append, List.length_singleton, HI1.out]
                · simp [boolV]
              · have e2b : (y.q == n) = false := by simpa using e2
                have HE := Lib.hid e2
                clear e1 e2
                refine Mono.wp_region_mono [some 31, some 32, some 33, some 34, some 35, some 36, some 37, some 38, some 39, some 40, some 41, some 42, some 43, some 44, some 45] [Mono.isV (.pointer (some ⟨wr.heap.size, 0, none⟩)), Mono.isV (.int .u16 y.s), Mono.isV (.int .u16 (s : Int)), Mono.isV (.bool true), Mono.isV (.bool true), Mono.isV (.pointer (some ⟨wr.heap.size, 1, none⟩)), Mono.isV (.int .u16 y.q), Mono.isV (.pointer (some ⟨g, 0, none⟩)), Mono.isV (.int .u16 (s : Int)), Mono.isV (.pointer (some ⟨g, 0, none⟩)), Mono.isV (.pointer (some ⟨g, 2, none⟩)), Mono.isV (.pointer (some ⟨g, 2 + s, none⟩)), Mono.isV (.int .u16 n), Mono.isV (.bool false), Mono.isV (.bool false)] (by kernel_rfl) (by kernel_rfl) ?_ ?_
                · simp only [Mono.OpGoals, and_true]
                  refine ⟨?_, ?_, ?_, ?_, ?_, ?_, ?_, ?_, ?_, ?_, ?_, ?_, ?_, ?_, ?_⟩
                  · intro a u hbu hsu hdu
                    have A3 := HA3.out.ext hbu; have m0 := A3.cell 0; have m1 := A3.cell 1; have p2 := (hbu.cell (p := ⟨g, 2 + s, none⟩) HPL.out).trans HP2.out; simp [rowT] at m0 m1
                    refine Mono.if_want rfl ?_
                    have z8 : a.eval (.tmp 8) = .pointer (some ⟨wr.heap.size, 0, none⟩) := hsu 8 (by decide)
                    simp [Act.eval] at z8
                    exact Mono.ok_val (.pointer (some ⟨wr.heap.size, 0, none⟩)) (by simp [execOp, z8, go_sem, m0, m1, p2, e1b, e2b, s8, s0]) rfl
                  · intro a u hbu hsu hdu
                    have A3 := HA3.out.ext hbu; have m0 := A3.cell 0; have m1 := A3.cell 1; have p2 := (hbu.cell (p := ⟨g, 2 + s, none⟩) HPL.out).trans HP2.out; simp [rowT] at m0 m1
                    refine Mono.if_want rfl ?_
                    have z31 : a.eval (.tmp 31) = .pointer (some ⟨wr.heap.size, 0, none⟩) := Mono.dep_at hdu (i := 0) (d := 31) rfl rfl rfl
                    simp [Act.eval] at z31
                    exact Mono.ok_val (.int .u16 y.s) (by simp [execOp, z31, go_sem, m0, m1, p2, e1b, e2b, s8, s0]) rfl
                  · intro a u hbu hsu hdu
                    have A3 := HA3.out.ext hbu; have m0 := A3.cell 0; have m1 := A3.cell 1; have p2 := (hbu.cell (p := ⟨g, 2 + s, none⟩) HPL.out).trans HP2.out; simp [rowT] at m0 m1
                    refine Mono.if_want rfl ?_
                    exact Mono.ok_move (.tmp 1) rfl (hsu 1 (by decide))
                  · intro a u hbu hsu hdu
                    have A3 := HA3.out.ext hbu; have m0 := A3.cell 0; have m1 := A3.cell 1; have p2 := (hbu.cell (p := ⟨g, 2 + s, none⟩) HPL.out).trans HP2.out; simp [rowT] at m0 m1
                    refine Mono.if_want rfl ?_
                    have z32 : a.eval (.tmp 32) = .int .u16 y.s := Mono.dep_at hdu (i := 1) (d := 32) rfl rfl rfl
                    simp [Act.eval] at z32
                    have z33 : a.eval (.tmp 33) = .int .u16 (s : Int) := Mono.dep_at hdu (i := 2) (d := 33) rfl rfl rfl
                    simp [Act.eval] at z33
                    exact Mono.ok_val (.bool true) (by simp [execOp, z32, z33, go_sem, m0, m1, p2, e1b, e2b, s8, s0]) rfl
                  · intro a u hbu hsu hdu
                    have A3 := HA3.out.ext hbu; have m0 := A3.cell 0; have m1 := A3.cell 1; have p2 := (hbu.cell (p := ⟨g, 2 + s, none⟩) HPL.out).trans HP2.out; simp [rowT] at m0 m1
                    refine Mono.if_want rfl ?_
                    exact Mono.ok_move (.tmp 34) rfl (Mono.dep_at hdu (i := 3) (d := 34) rfl rfl rfl)
                  · intro a u hbu hsu hdu
                    have A3 := HA3.out.ext hbu; have m0 := A3.cell 0; have m1 := A3.cell 1; have p2 := (hbu.cell (p := ⟨g, 2 + s, none⟩) HPL.out).trans HP2.out; simp [rowT] at m0 m1
                    refine Mono.if_want (Mono.want_at (c := true) rfl rfl (Mono.dep_at hdu (i := 4) (d := 35) rfl rfl rfl) rfl) ?_
                    have z8 : a.eval (.tmp 8) = .pointer (some ⟨wr.heap.size, 0, none⟩) := hsu 8 (by decide)
                    simp [Act.eval] at z8
                    exact Mono.ok_val (.pointer (some ⟨wr.heap.size, 1, none⟩)) (by simp [execOp, z8, go_sem, m0, m1, p2, e1b, e2b, s8, s0]) rfl
                  · intro a u hbu hsu hdu
                    have A3 := HA3.out.ext hbu; have m0 := A3.cell 0; have m1 := A3.cell 1; have p2 := (hbu.cell (p := ⟨g, 2 + s, none⟩) HPL.out).trans HP2.out; simp [rowT] at m0 m1
                    refine Mono.if_want (Mono.want_at (c := true) rfl rfl (Mono.dep_at hdu (i := 4) (d := 35) rfl rfl rfl) rfl) ?_
                    have z36 : a.eval (.tmp 36) = .pointer (some ⟨wr.heap.size, 1, none⟩) := Mono.dep_at hdu (i := 5) (d := 36) rfl rfl rfl
                    simp [Act.eval] at z36
                    exact Mono.ok_val (.int .u16 y.q) (by simp [execOp, z36, go_sem, m0, m1, p2, e1b, e2b, s8, s0]) rfl
                  · intro a u hbu hsu hdu
                    have A3 := HA3.out.ext hbu; have m0 := A3.cell 0; have m1 := A3.cell 1; have p2 := (hbu.cell (p := ⟨g, 2 + s, none⟩) HPL.out).trans HP2.out; simp [rowT] at m0 m1
                    refine Mono.if_want (Mono.want_at (c := true) rfl rfl (Mono.dep_at hdu (i := 4) (d := 35) rfl rfl rfl) rfl) ?_
                    exact Mono.ok_move (.tmp 0) rfl (hsu 0 (by decide))
                  · intro a u hbu hsu hdu
                    have A3 := HA3.out.ext hbu; have m0 := A3.cell 0; have m1 := A3.cell 1; have p2 := (hbu.cell (p := ⟨g, 2 + s, none⟩) HPL.out).trans HP2.out; simp [rowT] at m0 m1
                    refine Mono.if_want (Mono.want_at (c := true) rfl rfl (Mono.dep_at hdu (i := 4) (d := 35) rfl rfl rfl) rfl) ?_
                    exact Mono.ok_move (.tmp 1) rfl (hsu 1 (by decide))
                  · intro a u hbu hsu hdu
                    have A3 := HA3.out.ext hbu; have m0 := A3.cell 0; have m1 := A3.cell 1; have p2 := (hbu.cell (p := ⟨g, 2 + s, none⟩) HPL.out).trans HP2.out; simp [rowT] at m0 m1
                    refine Mono.if_want (Mono.want_at (c := true) rfl rfl (Mono.dep_at hdu (i := 4) (d := 35) rfl rfl rfl) rfl) ?_
                    have z38 : a.eval (.tmp 38) = .pointer (some ⟨g, 0, none⟩) := Mono.dep_at hdu (i := 7) (d := 38) rfl rfl rfl
                    simp [Act.eval] at z38
                    exact Mono.ok_val (.pointer (some ⟨g, 0, none⟩)) (by simp [execOp, z38, go_sem, m0, m1, p2, e1b, e2b, s8, s0]) rfl
                  · intro a u hbu hsu hdu
                    have A3 := HA3.out.ext hbu; have m0 := A3.cell 0; have m1 := A3.cell 1; have p2 := (hbu.cell (p := ⟨g, 2 + s, none⟩) HPL.out).trans HP2.out; simp [rowT] at m0 m1
                    refine Mono.if_want (Mono.want_at (c := true) rfl rfl (Mono.dep_at hdu (i := 4) (d := 35) rfl rfl rfl) rfl) ?_
                    have z40 : a.eval (.tmp 40) = .pointer (some ⟨g, 0, none⟩) := Mono.dep_at hdu (i := 9) (d := 40) rfl rfl rfl
                    simp [Act.eval] at z40
                    exact Mono.ok_val (.pointer (some ⟨g, 2, none⟩)) (by simp [execOp, z40, go_sem, m0, m1, p2, e1b, e2b, s8, s0]) rfl
                  · intro a u hbu hsu hdu
                    have A3 := HA3.out.ext hbu; have m0 := A3.cell 0; have m1 := A3.cell 1; have p2 := (hbu.cell (p := ⟨g, 2 + s, none⟩) HPL.out).trans HP2.out; simp [rowT] at m0 m1
                    refine Mono.if_want (Mono.want_at (c := true) rfl rfl (Mono.dep_at hdu (i := 4) (d := 35) rfl rfl rfl) rfl) ?_
                    have z41 : a.eval (.tmp 41) = .pointer (some ⟨g, 2, none⟩) := Mono.dep_at hdu (i := 10) (d := 41) rfl rfl rfl
                    simp [Act.eval] at z41
                    have z39 : a.eval (.tmp 39) = .int .u16 (s : Int) := Mono.dep_at hdu (i := 8) (d := 39) rfl rfl rfl
                    simp [Act.eval] at z39
                    exact Mono.ok_val (.pointer (some ⟨g, 2 + s, none⟩)) (by simp [execOp, z41, z39, go_sem, m0, m1, p2, e1b, e2b, s8, s0]) rfl
                  · intro a u hbu hsu hdu
                    have A3 := HA3.out.ext hbu; have m0 := A3.cell 0; have m1 := A3.cell 1; have p2 := (hbu.cell (p := ⟨g, 2 + s, none⟩) HPL.out).trans HP2.out; simp [rowT] at m0 m1
                    refine Mono.if_want (Mono.want_at (c := true) rfl rfl (Mono.dep_at hdu (i := 4) (d := 35) rfl rfl rfl) rfl) ?_
                    have z42 : a.eval (.tmp 42) = .pointer (some ⟨g, 2 + s, none⟩) := Mono.dep_at hdu (i := 11) (d := 42) rfl rfl rfl
                    simp [Act.eval] at z42
                    exact Mono.ok_val (.int .u16 n) (by simp [execOp, z42, go_sem, m0, m1, p2, e1b, e2b, s8, s0]) rfl
                  · intro a u hbu hsu hdu
                    have A3 := HA3.out.ext hbu; have m0 := A3.cell 0; have m1 := A3.cell 1; have p2 := (hbu.cell (p := ⟨g, 2 + s, none⟩) HPL.out).trans HP2.out; simp [rowT] at m0 m1
                    refine Mono.if_want (Mono.want_at (c := true) rfl rfl (Mono.dep_at hdu (i := 4) (d := 35) rfl rfl rfl) rfl) ?_
                    have z37 : a.eval (.tmp 37) = .int .u16 y.q := Mono.dep_at hdu (i := 6) (d := 37) rfl rfl rfl
                    simp [Act.eval] at z37
                    have z43 : a.eval (.tmp 43) = .int .u16 n := Mono.dep_at hdu (i := 12) (d := 43) rfl rfl rfl
                    simp [Act.eval] at z43
                    exact Mono.ok_val (.bool false) (by simp [execOp, z37, z43, go_sem, m0, m1, p2, e1b, e2b, s8, s0]) rfl
                  · intro a u hbu hsu hdu
                    have A3 := HA3.out.ext hbu; have m0 := A3.cell 0; have m1 := A3.cell 1; have p2 := (hbu.cell (p := ⟨g, 2 + s, none⟩) HPL.out).trans HP2.out; simp [rowT] at m0 m1
                    refine Mono.if_want rfl ?_
                    have z35 : a.eval (.tmp 35) = .bool true := Mono.dep_at hdu (i := 4) (d := 35) rfl rfl rfl
                    simp [Act.eval] at z35
                    have z44 : a.eval (.tmp 44) = .bool false := Mono.dep_at hdu (i := 13) (d := 44) rfl rfl rfl
                    simp [Act.eval] at z44
                    exact Mono.ok_val (.bool false) (by simp [execOp, z35, z44, go_sem, m0, m1, p2, e1b, e2b, s8, s0]) rfl
                intro u hu
                simp only [Mono.Fin]
                rintro _ rfl _ rfl _ rfl _ rfl _ rfl _ rfl _ rfl _ rfl _ rfl _ rfl _ rfl _ rfl _ rfl _ rfl _ rfl
                simp [Act.put]
                go_wp2_with fail
                refine ⟨⟨false, i + 1, l, nx, out, _, rfl, by go_num, OwnG.below HO3.out hu, HBX.out.below hu, rx_below HX3.out hu, HL.out, HF.out, ⟨HI1.out, by have := HM.out; omega, hfin.out (fun h => HE.out (h.2.trans HNN.out))⟩⟩, ?_⟩
                have h1 := hlu.out
                have h2 := HL.out
                have h3 := HI1.out
                have h4 := HM.out
                simp [boolV, intOf]
                omega
            · have e1b : (y.s == (s : Int)) = false := by simpa using e1
              have HE := Lib.hid e1
              clear e1
              refine Mono.wp_region_mono [some 31, some 32, some 33, some 34, some 35, some 36, some 37, some 38, some 39, some 40, some 41, some 42, some 43, some 44, some 45] [Mono.isV (.pointer (some ⟨wr.heap.size, 0, none⟩)), Mono.isV (.int .u16 y.s), Mono.isV (.int .u16 (s : Int)), Mono.isV (.bool false), Mono.isV (.bool false), Mono.isV (undef), Mono.isV (undef), Mono.isV (undef), Mono.isV (undef), Mono.isV (undef), Mono.isV (undef), Mono.isV (undef), Mono.isV (undef), Mono.isV (undef), Mono.isV (.bool false)] (by kernel_rfl) (by kernel_rfl) ?_ ?_
              · simp only [Mono.OpGoals, and_true]
                refine ⟨?_, ?_, ?_, ?_, ?_, ?_, ?_, ?_, ?_, ?_, ?_, ?_, ?_, ?_, ?_⟩
                · intro a u hbu hsu hdu
                  have A3 := HA3.out.ext hbu; have m0 := A3.cell 0; have m1 := A3.cell 1; have p2 := (hbu.cell (p := ⟨g, 2 + s, none⟩) HPL.out).trans HP2.out; simp [rowT] at m0 m1
                  refine Mono.if_want rfl ?_
                  have z8 : a.eval (.tmp 8) = .pointer (some ⟨wr.heap.size, 0, none⟩) := hsu 8 (by decide)
                  simp [Act.eval] at z8
                  exact Mono.ok_val (.pointer (some ⟨wr.heap.size, 0, none⟩)) (by simp [execOp, z8, go_sem, m0, m1, p2, e1b, s8, s0]) rfl
                · intro a u hbu hsu hdu
                  have A3 := HA3.out.ext hbu; have m0 := A3.cell 0; have m1 := A3.cell 1; have p2 := (hbu.cell (p := ⟨g, 2 + s, none⟩) HPL.out).trans HP2.out; simp [rowT] at m0 m1
                  refine Mono.if_want rfl ?_
                  have z31 : a.eval (.tmp 31) = .pointer (some ⟨wr.heap.size, 0, none⟩) := Mono.dep_at hdu (i := 0) (d := 31) rfl rfl rfl
                  simp [Act.eval] at z31
                  exact Mono.ok_val (.int .u16 y.s) (by simp [execOp, z31, go_sem, m0, m1, p2, e1b, s8, s0]) rfl
                · intro a u hbu hsu hdu
                  have A3 := HA3.out.ext hbu; have m0 := A3.cell 0; have m1 := A3.cell 1; have p2 := (hbu.cell (p := ⟨g, 2 + s, none⟩) HPL.out).trans HP2.out; simp [rowT] at m0 m1
                  refine Mono.if_want rfl ?_
                  exact Mono.ok_move (.tmp 1) rfl (hsu 1 (by decide))
                · intro a u hbu hsu hdu
                  have A3 := HA3.out.ext hbu; have m0 := A3.cell 0; have m1 := A3.cell 1; have p2 := (hbu.cell (p := ⟨g, 2 + s, none⟩) HPL.out).trans HP2.out; simp [rowT] at m0 m1
                  refine Mono.if_want rfl ?_
                  have z32 : a.eval (.tmp 32) = .int .u16 y.s := Mono.dep_at hdu (i := 1) (d := 32) rfl rfl rfl
                  simp [Act.eval] at z32
                  have z33 : a.eval (.tmp 33) = .int .u16 (s : Int) := Mono.dep_at hdu (i := 2) (d := 33) rfl rfl rfl
                  simp [Act.eval] at z33
                  exact Mono.ok_val (.bool false) (by simp [execOp, z32, z33, go_sem, m0, m1, p2, e1b, s8, s0]) rfl
                · intro a u hbu hsu hdu
                  have A3 := HA3.out.ext hbu; have m0 := A3.cell 0; have m1 := A3.cell 1; have p2 := (hbu.cell (p := ⟨g, 2 + s, none⟩) HPL.out).trans HP2.out; simp [rowT] at m0 m1
                  refine Mono.if_want rfl ?_
                  exact Mono.ok_move (.tmp 34) rfl (Mono.dep_at hdu (i := 3) (d := 34) rfl rfl rfl)
                · intro a u hbu hsu hdu
                  have A3 := HA3.out.ext hbu; have m0 := A3.cell 0; have m1 := A3.cell 1; have p2 := (hbu.cell (p := ⟨g, 2 + s, none⟩) HPL.out).trans HP2.out; simp [rowT] at m0 m1
                  refine Mono.if_no (Mono.want_no (c := false) rfl rfl (Mono.dep_at hdu (i := 4) (d := 35) rfl rfl rfl) rfl) ?_
                  exact rfl
                · intro a u hbu hsu hdu
                  have A3 := HA3.out.ext hbu; have m0 := A3.cell 0; have m1 := A3.cell 1; have p2 := (hbu.cell (p := ⟨g, 2 + s, none⟩) HPL.out).trans HP2.out; simp [rowT] at m0 m1
                  refine Mono.if_no (Mono.want_no (c := false) rfl rfl (Mono.dep_at hdu (i := 4) (d := 35) rfl rfl rfl) rfl) ?_
                  exact rfl
                · intro a u hbu hsu hdu
                  have A3 := HA3.out.ext hbu; have m0 := A3.cell 0; have m1 := A3.cell 1; have p2 := (hbu.cell (p := ⟨g, 2 + s, none⟩) HPL.out).trans HP2.out; simp [rowT] at m0 m1
                  refine Mono.if_no (Mono.want_no (c := false) rfl rfl (Mono.dep_at hdu (i := 4) (d := 35) rfl rfl rfl) rfl) ?_
                  exact rfl
                · intro a u hbu hsu hdu
                  have A3 := HA3.out.ext hbu; have m0 := A3.cell 0; have m1 := A3.cell 1; have p2 := (hbu.cell (p := ⟨g, 2 + s, none⟩) HPL.out).trans HP2.out; simp [rowT] at m0 m1
                  refine Mono.if_no (Mono.want_no (c := false) rfl rfl (Mono.dep_at hdu (i := 4) (d := 35) rfl rfl rfl) rfl) ?_
                  exact rfl
                · intro a u hbu hsu hdu
                  have A3 := HA3.out.ext hbu; have m0 := A3.cell 0; have m1 := A3.cell 1; have p2 := (hbu.cell (p := ⟨g, 2 + s, none⟩) HPL.out).trans HP2.out; simp [rowT] at m0 m1
                  refine Mono.if_no (Mono.want_no (c := false) rfl rfl (Mono.dep_at hdu (i := 4) (d := 35) rfl rfl rfl) rfl) ?_
                  exact rfl
                · intro a u hbu hsu hdu
                  have A3 := HA3.out.ext hbu; have m0 := A3.cell 0; have m1 := A3.cell 1; have p2 := (hbu.cell (p := ⟨g, 2 + s, none⟩) HPL.out).trans HP2.out; simp [rowT] at m0 m1
                  refine Mono.if_no (Mono.want_no (c := false) rfl rfl (Mono.dep_at hdu (i := 4) (d := 35) rfl rfl rfl) rfl) ?_
                  exact rfl
                · intro a u hbu hsu hdu
                  have A3 := HA3.out.ext hbu; have m0 := A3.cell 0; have m1 := A3.cell 1; have p2 := (hbu.cell (p := ⟨g, 2 + s, none⟩) HPL.out).trans HP2.out; simp [rowT] at m0 m1
                  refine Mono.if_no (Mono.want_no (c := false) rfl rfl (Mono.dep_at hdu (i := 4) (d := 35) rfl rfl rfl) rfl) ?_
                  exact rfl
                · intro a u hbu hsu hdu
                  have A3 := HA3.out.ext hbu; have m0 := A3.cell 0; have m1 := A3.cell 1; have p2 := (hbu.cell (p := ⟨g, 2 + s, none⟩) HPL.out).trans HP2.out; simp [rowT] at m0 m1
                  refine Mono.if_no (Mono.want_no (c := false) rfl rfl (Mono.dep_at hdu (i := 4) (d := 35) rfl rfl rfl) rfl) ?_
                  exact rfl
                · intro a u hbu hsu hdu
                  have A3 := HA3.out.ext hbu; have m0 := A3.cell 0; have m1 := A3.cell 1; have p2 := (hbu.cell (p := ⟨g, 2 + s, none⟩) HPL.out).trans HP2.out; simp [rowT] at m0 m1
                  refine Mono.if_no (Mono.want_no (c := false) rfl rfl (Mono.dep_at hdu (i := 4) (d := 35) rfl rfl rfl) rfl) ?_
                  exact rfl
                · intro a u hbu hsu hdu
                  have A3 := HA3.out.ext hbu; have m0 := A3.cell 0; have m1 := A3.cell 1; have p2 := (hbu.cell (p := ⟨g, 2 + s, none⟩) HPL.out).trans HP2.out; simp [rowT] at m0 m1
                  refine Mono.if_want rfl ?_
                  have z35 : a.eval (.tmp 35) = .bool false := Mono.dep_at hdu (i := 4) (d := 35) rfl rfl rfl
                  simp [Act.eval] at z35
                  have z44 : a.eval (.tmp 44) = undef := Mono.dep_at hdu (i := 13) (d := 44) rfl rfl rfl
                  simp [Act.eval] at z44
                  exact Mono.ok_val (.bool false) (by simp [execOp, z35, z44, go_sem, m0, m1, p2, e1b, s8, s0]) rfl
              intro u hu
              simp only [Mono.Fin]
              rintro _ rfl _ rfl _ rfl _ rfl _ rfl _ rfl _ rfl _ rfl _ rfl _ rfl _ rfl _ rfl _ rfl _ rfl _ rfl
              simp [Act.put]
              go_wp2_with fail
              refine ⟨⟨false, i + 1, l, nx, out, _, rfl, by go_num, OwnG.below HO3.out hu, HBX.out.below hu, rx_below HX3.out hu, HL.out, HF.out, ⟨HI1.out, by have := HM.out; omega, hfin.out (fun h => HE.out h.1)⟩⟩, ?_⟩
              have h1 := hlu.out
              have h2 := HL.out
              have h3 := HI1.out
              have h4 := HM.out
              simp [boolV, intOf]
              omega
          · have hltz : ¬ (i : Int) < (m : Int) := by omega
            have hltb : decide ((i : Int) < (m : Int)) = false := decide_eq_false hltz
            have HNO := Lib.hid (show getW l s (nx s) = none from getW_gone (fun j hj b hb => hI3 j (by have := HM.out; omega) b hb))
            have HI1 := Lib.hid hI1
            clear hI3 hI1 hI2
            go_wp2_with fail
            refine ⟨⟨false, l, nx, out, _, rfl, HO.out, HB.out, HX.out, HL.out, HF.out.trans (ready_none HNO.out)⟩, ?_⟩
            have h1 := HLV.out
            simp [boolV]
            omega
end Go.Proofs.Yteiiifonejkjbaa.Rb
