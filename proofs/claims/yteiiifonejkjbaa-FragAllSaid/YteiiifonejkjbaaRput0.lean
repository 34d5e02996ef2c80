/-
  Contract of the reference's box: Put (17), what it refuses; SameMessages (18).
-/
import Derived.Test.YteiiifonejkjbaaRbox6
namespace Go.Proofs.Yteiiifonejkjbaa.Rb
open Go.RowKit Mem Cells Ops Pcs Go.Maps Go.Proofs.Yteiiifonejkjbaa.Open Go.Proofs.Yteiiifonejkjbaa.Bx
set_option linter.unusedVariables false
set_option linter.unusedSimpArgs false
attribute [local go_sem] Oper.semAt_some

def RPutIs (Z : Nat) (w : World) (g : Nat) (x : S) (p : A) : Ending → World → Prop := fun e w' => ∃ v, e = .returned (.tuple #[v, .int .i64 (putF x p).2.2]) ∧ OwnG w.heap.size w' v (putF x p).2.1 ∧ Rbox Z w' g (putF x p).1 ∧ ButX (RX Z w) w w'
set_option maxRecDepth 100000 in
set_option maxHeartbeats 800000 in
theorem rput_bad1 {g : Nat} (p : A) (q : Option Addr) (c L : Nat) (hl : p.data.length = L) (h : p.data.length = 0) (w : World) :
    Calls Try.prog 17 #[.pointer (some ⟨g, 0, none⟩), .agg (row p (.slice q p.data.length c)).toArray] w fun e w' => e = .returned (.tuple #[.slice none 0 0, .int .i64 2]) ∧ Below w.heap.size w w' := by
  rw [hl] at h ⊢
  clear hl
  subst h
  go_enter Try.func17, Try.ntmps17
  go_wp2_with ((with_reducible refine wpl_boxAt rfl 45 (.tmp 1) rfl (row p (.slice q 0 c)).toArray ?_ ?_); rfl; go_must (intro w1 hat1 hb1 hs1; have m1 := hat1.cell 1; have m6 := hat1.cell 6; simp [row] at m1 m6; have HB := Lib.hid hb1; clear hb1))
  go_ret2
  exact ⟨rfl, HB.out⟩
set_option maxRecDepth 100000 in
set_option maxHeartbeats 800000 in
theorem rput_bad2 {g : Nat} (p : A) (q : Option Addr) (c L : Nat) (hl : p.data.length = L) (h : p.data.length ≠ 0) (h2 : 256 < p.data.length) (hL : p.data.length ≤ 9223372036854775807) (w : World) :
    Calls Try.prog 17 #[.pointer (some ⟨g, 0, none⟩), .agg (row p (.slice q p.data.length c)).toArray] w fun e w' => e = .returned (.tuple #[.slice none 0 0, .int .i64 2]) ∧ Below w.heap.size w w' := by
  rw [hl] at h h2 hL ⊢
  clear hl
  have l0 : ((L : Int) == 0) = false := by simp; omega
  have z2 : (256 : Int) < (L : Int) := by omega
  have b2 : decide ((256 : Int) < (L : Int)) = true := decide_eq_true z2
  go_enter Try.func17, Try.ntmps17
  go_wp2_with ((with_reducible refine wpl_boxAt rfl 45 (.tmp 1) rfl (row p (.slice q L c)).toArray ?_ ?_); rfl; go_must (intro w1 hat1 hb1 hs1; have m1 := hat1.cell 1; have m6 := hat1.cell 6; simp [row] at m1 m6; have HB := Lib.hid hb1; clear hb1))
  go_ret2
  exact ⟨rfl, HB.out⟩
set_option maxRecDepth 100000 in
set_option maxHeartbeats 800000 in
theorem rput_bad3 {g : Nat} (p : A) (q : Option Addr) (c L : Nat) (hl : p.data.length = L) (h : p.data.length ≠ 0) (h2 : p.data.length ≤ 256) (h3 : 8 ≤ p.stream) (hs : 0 ≤ p.stream ∧ p.stream ≤ 65535) (w : World) :
    Calls Try.prog 17 #[.pointer (some ⟨g, 0, none⟩), .agg (row p (.slice q p.data.length c)).toArray] w fun e w' => e = .returned (.tuple #[.slice none 0 0, .int .i64 2]) ∧ Below w.heap.size w w' := by
  rw [hl] at h h2 ⊢
  clear hl
  have l0 : ((L : Int) == 0) = false := by simp; omega
  have z2 : ¬ (256 : Int) < (L : Int) := by omega
  have b2 : decide ((256 : Int) < (L : Int)) = false := decide_eq_false z2
  have b3 : decide ((8 : Int) ≤ p.stream) = true := decide_eq_true h3
  go_enter Try.func17, Try.ntmps17
  go_wp2_with ((with_reducible refine wpl_boxAt rfl 45 (.tmp 1) rfl (row p (.slice q L c)).toArray ?_ ?_); rfl; go_must (intro w1 hat1 hb1 hs1; have m1 := hat1.cell 1; have m6 := hat1.cell 6; simp [row] at m1 m6; have HB := Lib.hid hb1; clear hb1))
  go_ret2
  exact ⟨rfl, HB.out⟩
theorem rput_bad {w : World} {Z g : Nat} {x : S} (H : Rbox Z w g x) (p : A) (d : Value) (hr : Reads .u8 w d p.data) (hok : p.ok) (hb : badF p = true) :
    Calls Try.prog 17 #[.pointer (some ⟨g, 0, none⟩), .agg (row p d).toArray] w (RPutIs Z w g x p) := by
  have hp : putF x p = (x, [], 2) := by unfold putF; rw [if_pos hb]
  obtain ⟨q, c, rfl, h1, h2, _⟩ := id hr
  have hL : p.data.length ≤ 9223372036854775807 := by unfold maxLen at h2; omega
  have key : Calls Try.prog 17 #[.pointer (some ⟨g, 0, none⟩), .agg (row p (.slice q p.data.length c)).toArray] w fun e w' => e = .returned (.tuple #[.slice none 0 0, .int .i64 2]) ∧ Below w.heap.size w w' := by
    unfold badF at hb
    rw [decide_eq_true_iff] at hb
    by_cases e1 : p.data.length = 0
    · exact rput_bad1 p q c _ rfl e1 w
    · by_cases e2 : 256 < p.data.length
      · exact rput_bad2 p q c _ rfl e1 e2 hL w
      · exact rput_bad3 p q c _ rfl e1 (by omega) (by omega) hok.2.1 w
  refine key.mono ?_
  rintro e w' ⟨rfl, hb'⟩
  unfold RPutIs
  rw [hp]
  obtain ⟨vh, vt, H⟩ := H
  exact ⟨_, rfl, OwnG.nil _ _, ⟨vh, vt, H.below hb'⟩, ButX.ofBelow hb'⟩
set_option maxRecDepth 100000 in
set_option maxHeartbeats 3200000 in
/-- Of the same messages: yes. -/
theorem sameG (B B' : Nat) (v v' : Value) (al : List G) (w : World) (hv : OwnG B w v al) (hv' : OwnG B' w v' al) : Calls Try.prog 18 #[v, v'] w (Chunk.TrueB w) := by
  obtain ⟨p, c, rfl, h1, h2⟩ := hv.shape
  obtain ⟨p', c', rfl, k1, k2⟩ := hv'.shape
  obtain ⟨n, hn⟩ : ∃ n, al.length = n := ⟨_, rfl⟩
  have HV := Lib.hid hv
  have HV' := Lib.hid hv'
  have HN := Lib.hid hn
  rw [hn] at HV HV' h1 k1 ⊢
  have hnm : n ≤ 9223372036854775807 := by unfold maxLen at h2; omega
  clear hn hv hv' h1 h2 k1 k2
  obtain ⟨W0, hW0⟩ : ∃ W0, w = W0 := ⟨w, rfl⟩
  rw [hW0] at HV HV' ⊢
  clear hW0
  go_enter Try.func18, Try.ntmps18
  go_upto_region 2 with fail
  go_loopw [5] (fun i wr => ∃ j : Nat, Hid (j ≤ n) ∧ i = .int .i64 (j : Int) ∧ Hid (Below W0.heap.size W0 wr)) (fun i _ => n - (intOf i).toNat)
  case atStart => exact ⟨0, Nat.zero_le _, rfl, Below.refl _ _⟩
  case round =>
    obtain ⟨j, hj, rfl, HBL⟩ := hrel
    by_cases hlt : j < n
    · have hltz : (j : Int) < (n : Int) := by exact_mod_cast hlt
      have hltb : decide ((j : Int) < (n : Int)) = true := decide_eq_true hltz
      obtain ⟨x, hx⟩ : ∃ x, al[j]? = some x := ⟨al[j]'(by rw [HN.out]; exact hlt), by simp⟩
      have hq := OwnG.below HV.out HBL.out
      have hq' := OwnG.below HV'.out HBL.out
      obtain ⟨b, cb, hvb, _, _, _, hlb⟩ := hq.block (by rw [HN.out]; omega)
      obtain ⟨b', cb', hvb', _, _, _, hlb'⟩ := hq'.block (by rw [HN.out]; omega)
      rw [HN.out] at hvb hvb'
      simp only [Value.slice.injEq, true_and] at hvb hvb'
      obtain ⟨rfl, rfl⟩ := hvb
      obtain ⟨rfl, rfl⟩ := hvb'
      obtain ⟨pd, md, hra, hrd⟩ := hq.elem j x hx
      obtain ⟨pd', md', hra', hrd'⟩ := hq'.elem j x hx
      have g0 := hra 0 _ rfl
      have g1 := hra 1 _ rfl
      have g0' := hra' 0 _ rfl
      have g1' := hra' 1 _ rfl
      rw [Nat.add_zero] at g0 g0'
      obtain ⟨xd, hxd⟩ : ∃ xd, x.data.length = xd := ⟨_, rfl⟩
      obtain ⟨st, hst⟩ : ∃ st, strOfNums x.data = st := ⟨_, rfl⟩
      have HST := Lib.hid hst
      rw [hxd] at g1 g1' hrd hrd'
      have HG := Lib.hid (And.intro g0 (And.intro g1 (And.intro g0' g1')))
      have HRD := Lib.hid hrd
      have HRD' := Lib.hid hrd'
      have HLB := Lib.hid hlb
      have HLB' := Lib.hid hlb'
      clear hx hq hq' hlb hlb' hra hra' hrd hrd' g0 g1 g0' g1' hxd hst
      go_upto_region 4 with fail
      refine Mono.wp_region_mono [some 18, some 19, some 20, some 21, some 22, some 23, some 24, some 25, some 26, some 27, some 28, some 29, some 30, some 31, some 32, some 33, some 34, some 35, some 36, some 37, some 38, some 39, some 40, some 41, some 42, some 43] [Mono.isV (.slice (some ⟨b, 0, none⟩) n c), Mono.isV (.int .i64 (j : Int)), Mono.isV (.pointer (some ⟨b, j * 2, none⟩)), Mono.isV (.pointer (some ⟨b, j * 2, none⟩)), Mono.isV (.int .u16 x.s), Mono.isV (.slice (some ⟨b', 0, none⟩) n c'), Mono.isV (.int .i64 (j : Int)), Mono.isV (.pointer (some ⟨b', j * 2, none⟩)), Mono.isV (.pointer (some ⟨b', j * 2, none⟩)), Mono.isV (.int .u16 x.s), Mono.isV (.bool false), Mono.isV (.bool false), Mono.isV (.slice (some ⟨b, 0, none⟩) n c), Mono.isV (.int .i64 (j : Int)), Mono.isV (.pointer (some ⟨b, j * 2, none⟩)), Mono.isV (.pointer (some ⟨b, j * 2 + 1, none⟩)), Mono.isV (.slice pd xd md), Mono.isV (.string st), Mono.isV (.slice (some ⟨b', 0, none⟩) n c'), Mono.isV (.int .i64 (j : Int)), Mono.isV (.pointer (some ⟨b', j * 2, none⟩)), Mono.isV (.pointer (some ⟨b', j * 2 + 1, none⟩)), Mono.isV (.slice pd' xd md'), Mono.isV (.string st), Mono.isV (.bool false), Mono.isV (.bool false)] (by kernel_rfl) (by kernel_rfl) ?_ ?_
      · simp only [Mono.OpGoals, and_true]
        refine ⟨?_, ?_, ?_, ?_, ?_, ?_, ?_, ?_, ?_, ?_, ?_, ?_, ?_, ?_, ?_, ?_, ?_, ?_, ?_, ?_, ?_, ?_, ?_, ?_, ?_, ?_⟩
        · intro a u hbu hsu hdu
          have c0 := (hbu.cell (p := ⟨b, j * 2, none⟩) HLB.out).trans HG.out.1; have c1 := (hbu.cell (p := ⟨b, j * 2 + 1, none⟩) HLB.out).trans HG.out.2.1; have c2 := (hbu.cell (p := ⟨b', j * 2, none⟩) HLB'.out).trans HG.out.2.2.1; have c3 := (hbu.cell (p := ⟨b', j * 2 + 1, none⟩) HLB'.out).trans HG.out.2.2.2
          refine Mono.if_want rfl ?_
          exact Mono.ok_move (.tmp 0) rfl (hsu 0 (by decide))
        · intro a u hbu hsu hdu
          have c0 := (hbu.cell (p := ⟨b, j * 2, none⟩) HLB.out).trans HG.out.1; have c1 := (hbu.cell (p := ⟨b, j * 2 + 1, none⟩) HLB.out).trans HG.out.2.1; have c2 := (hbu.cell (p := ⟨b', j * 2, none⟩) HLB'.out).trans HG.out.2.2.1; have c3 := (hbu.cell (p := ⟨b', j * 2 + 1, none⟩) HLB'.out).trans HG.out.2.2.2
          refine Mono.if_want rfl ?_
          exact Mono.ok_move (.tmp 5) rfl (hsu 5 (by decide))
        · intro a u hbu hsu hdu
          have c0 := (hbu.cell (p := ⟨b, j * 2, none⟩) HLB.out).trans HG.out.1; have c1 := (hbu.cell (p := ⟨b, j * 2 + 1, none⟩) HLB.out).trans HG.out.2.1; have c2 := (hbu.cell (p := ⟨b', j * 2, none⟩) HLB'.out).trans HG.out.2.2.1; have c3 := (hbu.cell (p := ⟨b', j * 2 + 1, none⟩) HLB'.out).trans HG.out.2.2.2
          refine Mono.if_want rfl ?_
          have z18 : a.eval (.tmp 18) = .slice (some ⟨b, 0, none⟩) n c := Mono.dep_at hdu (i := 0) (d := 18) rfl rfl rfl
          simp [Act.eval] at z18
          have z19 : a.eval (.tmp 19) = .int .i64 (j : Int) := Mono.dep_at hdu (i := 1) (d := 19) rfl rfl rfl
          simp [Act.eval] at z19
          exact Mono.ok_val (.pointer (some ⟨b, j * 2, none⟩)) (by simp [execOp, z18, z19, go_sem, hltz, c0, c1, c2, c3]) rfl
        · intro a u hbu hsu hdu
          have c0 := (hbu.cell (p := ⟨b, j * 2, none⟩) HLB.out).trans HG.out.1; have c1 := (hbu.cell (p := ⟨b, j * 2 + 1, none⟩) HLB.out).trans HG.out.2.1; have c2 := (hbu.cell (p := ⟨b', j * 2, none⟩) HLB'.out).trans HG.out.2.2.1; have c3 := (hbu.cell (p := ⟨b', j * 2 + 1, none⟩) HLB'.out).trans HG.out.2.2.2
          refine Mono.if_want rfl ?_
          have z20 : a.eval (.tmp 20) = .pointer (some ⟨b, j * 2, none⟩) := Mono.dep_at hdu (i := 2) (d := 20) rfl rfl rfl
          simp [Act.eval] at z20
          exact Mono.ok_val (.pointer (some ⟨b, j * 2, none⟩)) (by simp [execOp, z20, go_sem, hltz, c0, c1, c2, c3]) rfl
        · intro a u hbu hsu hdu
          have c0 := (hbu.cell (p := ⟨b, j * 2, none⟩) HLB.out).trans HG.out.1; have c1 := (hbu.cell (p := ⟨b, j * 2 + 1, none⟩) HLB.out).trans HG.out.2.1; have c2 := (hbu.cell (p := ⟨b', j * 2, none⟩) HLB'.out).trans HG.out.2.2.1; have c3 := (hbu.cell (p := ⟨b', j * 2 + 1, none⟩) HLB'.out).trans HG.out.2.2.2
          refine Mono.if_want rfl ?_
          have z21 : a.eval (.tmp 21) = .pointer (some ⟨b, j * 2, none⟩) := Mono.dep_at hdu (i := 3) (d := 21) rfl rfl rfl
          simp [Act.eval] at z21
          exact Mono.ok_val (.int .u16 x.s) (by simp [execOp, z21, go_sem, hltz, c0, c1, c2, c3]) rfl
        · intro a u hbu hsu hdu
          have c0 := (hbu.cell (p := ⟨b, j * 2, none⟩) HLB.out).trans HG.out.1; have c1 := (hbu.cell (p := ⟨b, j * 2 + 1, none⟩) HLB.out).trans HG.out.2.1; have c2 := (hbu.cell (p := ⟨b', j * 2, none⟩) HLB'.out).trans HG.out.2.2.1; have c3 := (hbu.cell (p := ⟨b', j * 2 + 1, none⟩) HLB'.out).trans HG.out.2.2.2
          refine Mono.if_want rfl ?_
          exact Mono.ok_move (.tmp 1) rfl (hsu 1 (by decide))
        · intro a u hbu hsu hdu
          have c0 := (hbu.cell (p := ⟨b, j * 2, none⟩) HLB.out).trans HG.out.1; have c1 := (hbu.cell (p := ⟨b, j * 2 + 1, none⟩) HLB.out).trans HG.out.2.1; have c2 := (hbu.cell (p := ⟨b', j * 2, none⟩) HLB'.out).trans HG.out.2.2.1; have c3 := (hbu.cell (p := ⟨b', j * 2 + 1, none⟩) HLB'.out).trans HG.out.2.2.2
          refine Mono.if_want rfl ?_
          exact Mono.ok_move (.tmp 5) rfl (hsu 5 (by decide))
        · intro a u hbu hsu hdu
          have c0 := (hbu.cell (p := ⟨b, j * 2, none⟩) HLB.out).trans HG.out.1; have c1 := (hbu.cell (p := ⟨b, j * 2 + 1, none⟩) HLB.out).trans HG.out.2.1; have c2 := (hbu.cell (p := ⟨b', j * 2, none⟩) HLB'.out).trans HG.out.2.2.1; have c3 := (hbu.cell (p := ⟨b', j * 2 + 1, none⟩) HLB'.out).trans HG.out.2.2.2
          refine Mono.if_want rfl ?_
          have z23 : a.eval (.tmp 23) = .slice (some ⟨b', 0, none⟩) n c' := Mono.dep_at hdu (i := 5) (d := 23) rfl rfl rfl
          simp [Act.eval] at z23
          have z24 : a.eval (.tmp 24) = .int .i64 (j : Int) := Mono.dep_at hdu (i := 6) (d := 24) rfl rfl rfl
          simp [Act.eval] at z24
          exact Mono.ok_val (.pointer (some ⟨b', j * 2, none⟩)) (by simp [execOp, z23, z24, go_sem, hltz, c0, c1, c2, c3]) rfl
        · intro a u hbu hsu hdu
          have c0 := (hbu.cell (p := ⟨b, j * 2, none⟩) HLB.out).trans HG.out.1; have c1 := (hbu.cell (p := ⟨b, j * 2 + 1, none⟩) HLB.out).trans HG.out.2.1; have c2 := (hbu.cell (p := ⟨b', j * 2, none⟩) HLB'.out).trans HG.out.2.2.1; have c3 := (hbu.cell (p := ⟨b', j * 2 + 1, none⟩) HLB'.out).trans HG.out.2.2.2
          refine Mono.if_want rfl ?_
          have z25 : a.eval (.tmp 25) = .pointer (some ⟨b', j * 2, none⟩) := Mono.dep_at hdu (i := 7) (d := 25) rfl rfl rfl
          simp [Act.eval] at z25
          exact Mono.ok_val (.pointer (some ⟨b', j * 2, none⟩)) (by simp [execOp, z25, go_sem, hltz, c0, c1, c2, c3]) rfl
        · intro a u hbu hsu hdu
          have c0 := (hbu.cell (p := ⟨b, j * 2, none⟩) HLB.out).trans HG.out.1; have c1 := (hbu.cell (p := ⟨b, j * 2 + 1, none⟩) HLB.out).trans HG.out.2.1; have c2 := (hbu.cell (p := ⟨b', j * 2, none⟩) HLB'.out).trans HG.out.2.2.1; have c3 := (hbu.cell (p := ⟨b', j * 2 + 1, none⟩) HLB'.out).trans HG.out.2.2.2
          refine Mono.if_want rfl ?_
          have z26 : a.eval (.tmp 26) = .pointer (some ⟨b', j * 2, none⟩) := Mono.dep_at hdu (i := 8) (d := 26) rfl rfl rfl
          simp [Act.eval] at z26
          exact Mono.ok_val (.int .u16 x.s) (by simp [execOp, z26, go_sem, hltz, c0, c1, c2, c3]) rfl
        · intro a u hbu hsu hdu
          have c0 := (hbu.cell (p := ⟨b, j * 2, none⟩) HLB.out).trans HG.out.1; have c1 := (hbu.cell (p := ⟨b, j * 2 + 1, none⟩) HLB.out).trans HG.out.2.1; have c2 := (hbu.cell (p := ⟨b', j * 2, none⟩) HLB'.out).trans HG.out.2.2.1; have c3 := (hbu.cell (p := ⟨b', j * 2 + 1, none⟩) HLB'.out).trans HG.out.2.2.2
          refine Mono.if_want rfl ?_
          have z22 : a.eval (.tmp 22) = .int .u16 x.s := Mono.dep_at hdu (i := 4) (d := 22) rfl rfl rfl
          simp [Act.eval] at z22
          have z27 : a.eval (.tmp 27) = .int .u16 x.s := Mono.dep_at hdu (i := 9) (d := 27) rfl rfl rfl
          simp [Act.eval] at z27
          exact Mono.ok_val (.bool false) (by simp [execOp, z22, z27, go_sem, hltz, c0, c1, c2, c3]) rfl
        · intro a u hbu hsu hdu
          have c0 := (hbu.cell (p := ⟨b, j * 2, none⟩) HLB.out).trans HG.out.1; have c1 := (hbu.cell (p := ⟨b, j * 2 + 1, none⟩) HLB.out).trans HG.out.2.1; have c2 := (hbu.cell (p := ⟨b', j * 2, none⟩) HLB'.out).trans HG.out.2.2.1; have c3 := (hbu.cell (p := ⟨b', j * 2 + 1, none⟩) HLB'.out).trans HG.out.2.2.2
          refine Mono.if_want rfl ?_
          exact Mono.ok_move (.tmp 28) rfl (Mono.dep_at hdu (i := 10) (d := 28) rfl rfl rfl)
        · intro a u hbu hsu hdu
          have c0 := (hbu.cell (p := ⟨b, j * 2, none⟩) HLB.out).trans HG.out.1; have c1 := (hbu.cell (p := ⟨b, j * 2 + 1, none⟩) HLB.out).trans HG.out.2.1; have c2 := (hbu.cell (p := ⟨b', j * 2, none⟩) HLB'.out).trans HG.out.2.2.1; have c3 := (hbu.cell (p := ⟨b', j * 2 + 1, none⟩) HLB'.out).trans HG.out.2.2.2
          refine Mono.if_want (Mono.want_at (c := false) rfl rfl (Mono.dep_at hdu (i := 11) (d := 29) rfl rfl rfl) rfl) ?_
          exact Mono.ok_move (.tmp 0) rfl (hsu 0 (by decide))
        · intro a u hbu hsu hdu
          have c0 := (hbu.cell (p := ⟨b, j * 2, none⟩) HLB.out).trans HG.out.1; have c1 := (hbu.cell (p := ⟨b, j * 2 + 1, none⟩) HLB.out).trans HG.out.2.1; have c2 := (hbu.cell (p := ⟨b', j * 2, none⟩) HLB'.out).trans HG.out.2.2.1; have c3 := (hbu.cell (p := ⟨b', j * 2 + 1, none⟩) HLB'.out).trans HG.out.2.2.2
          refine Mono.if_want (Mono.want_at (c := false) rfl rfl (Mono.dep_at hdu (i := 11) (d := 29) rfl rfl rfl) rfl) ?_
          exact Mono.ok_move (.tmp 5) rfl (hsu 5 (by decide))
        · intro a u hbu hsu hdu
          have c0 := (hbu.cell (p := ⟨b, j * 2, none⟩) HLB.out).trans HG.out.1; have c1 := (hbu.cell (p := ⟨b, j * 2 + 1, none⟩) HLB.out).trans HG.out.2.1; have c2 := (hbu.cell (p := ⟨b', j * 2, none⟩) HLB'.out).trans HG.out.2.2.1; have c3 := (hbu.cell (p := ⟨b', j * 2 + 1, none⟩) HLB'.out).trans HG.out.2.2.2
          refine Mono.if_want (Mono.want_at (c := false) rfl rfl (Mono.dep_at hdu (i := 11) (d := 29) rfl rfl rfl) rfl) ?_
          have z30 : a.eval (.tmp 30) = .slice (some ⟨b, 0, none⟩) n c := Mono.dep_at hdu (i := 12) (d := 30) rfl rfl rfl
          simp [Act.eval] at z30
          have z31 : a.eval (.tmp 31) = .int .i64 (j : Int) := Mono.dep_at hdu (i := 13) (d := 31) rfl rfl rfl
          simp [Act.eval] at z31
          exact Mono.ok_val (.pointer (some ⟨b, j * 2, none⟩)) (by simp [execOp, z30, z31, go_sem, hltz, c0, c1, c2, c3]) rfl
        · intro a u hbu hsu hdu
          have c0 := (hbu.cell (p := ⟨b, j * 2, none⟩) HLB.out).trans HG.out.1; have c1 := (hbu.cell (p := ⟨b, j * 2 + 1, none⟩) HLB.out).trans HG.out.2.1; have c2 := (hbu.cell (p := ⟨b', j * 2, none⟩) HLB'.out).trans HG.out.2.2.1; have c3 := (hbu.cell (p := ⟨b', j * 2 + 1, none⟩) HLB'.out).trans HG.out.2.2.2
          refine Mono.if_want (Mono.want_at (c := false) rfl rfl (Mono.dep_at hdu (i := 11) (d := 29) rfl rfl rfl) rfl) ?_
          have z32 : a.eval (.tmp 32) = .pointer (some ⟨b, j * 2, none⟩) := Mono.dep_at hdu (i := 14) (d := 32) rfl rfl rfl
          simp [Act.eval] at z32
          exact Mono.ok_val (.pointer (some ⟨b, j * 2 + 1, none⟩)) (by simp [execOp, z32, go_sem, hltz, c0, c1, c2, c3]) rfl
        · intro a u hbu hsu hdu
          have c0 := (hbu.cell (p := ⟨b, j * 2, none⟩) HLB.out).trans HG.out.1; have c1 := (hbu.cell (p := ⟨b, j * 2 + 1, none⟩) HLB.out).trans HG.out.2.1; have c2 := (hbu.cell (p := ⟨b', j * 2, none⟩) HLB'.out).trans HG.out.2.2.1; have c3 := (hbu.cell (p := ⟨b', j * 2 + 1, none⟩) HLB'.out).trans HG.out.2.2.2
          refine Mono.if_want (Mono.want_at (c := false) rfl rfl (Mono.dep_at hdu (i := 11) (d := 29) rfl rfl rfl) rfl) ?_
          have z33 : a.eval (.tmp 33) = .pointer (some ⟨b, j * 2 + 1, none⟩) := Mono.dep_at hdu (i := 15) (d := 33) rfl rfl rfl
          simp [Act.eval] at z33
          exact Mono.ok_val (.slice pd xd md) (by simp [execOp, z33, go_sem, hltz, c0, c1, c2, c3]) rfl
        · intro a u hbu hsu hdu
          have c0 := (hbu.cell (p := ⟨b, j * 2, none⟩) HLB.out).trans HG.out.1; have c1 := (hbu.cell (p := ⟨b, j * 2 + 1, none⟩) HLB.out).trans HG.out.2.1; have c2 := (hbu.cell (p := ⟨b', j * 2, none⟩) HLB'.out).trans HG.out.2.2.1; have c3 := (hbu.cell (p := ⟨b', j * 2 + 1, none⟩) HLB'.out).trans HG.out.2.2.2
          refine Mono.if_want (Mono.want_at (c := false) rfl rfl (Mono.dep_at hdu (i := 11) (d := 29) rfl rfl rfl) rfl) ?_
          have z34 : a.eval (.tmp 34) = .slice pd xd md := Mono.dep_at hdu (i := 16) (d := 34) rfl rfl rfl
          exact Mono.ok_conv 30 9 (.tmp 34) rfl _ (by rw [z34, ← HST.out]; exact Chunk.string30 (Row.below HRD.out hbu).reads) rfl
        · intro a u hbu hsu hdu
          have c0 := (hbu.cell (p := ⟨b, j * 2, none⟩) HLB.out).trans HG.out.1; have c1 := (hbu.cell (p := ⟨b, j * 2 + 1, none⟩) HLB.out).trans HG.out.2.1; have c2 := (hbu.cell (p := ⟨b', j * 2, none⟩) HLB'.out).trans HG.out.2.2.1; have c3 := (hbu.cell (p := ⟨b', j * 2 + 1, none⟩) HLB'.out).trans HG.out.2.2.2
          refine Mono.if_want (Mono.want_at (c := false) rfl rfl (Mono.dep_at hdu (i := 11) (d := 29) rfl rfl rfl) rfl) ?_
          exact Mono.ok_move (.tmp 1) rfl (hsu 1 (by decide))
        · intro a u hbu hsu hdu
          have c0 := (hbu.cell (p := ⟨b, j * 2, none⟩) HLB.out).trans HG.out.1; have c1 := (hbu.cell (p := ⟨b, j * 2 + 1, none⟩) HLB.out).trans HG.out.2.1; have c2 := (hbu.cell (p := ⟨b', j * 2, none⟩) HLB'.out).trans HG.out.2.2.1; have c3 := (hbu.cell (p := ⟨b', j * 2 + 1, none⟩) HLB'.out).trans HG.out.2.2.2
          refine Mono.if_want (Mono.want_at (c := false) rfl rfl (Mono.dep_at hdu (i := 11) (d := 29) rfl rfl rfl) rfl) ?_
          exact Mono.ok_move (.tmp 5) rfl (hsu 5 (by decide))
        · intro a u hbu hsu hdu
          have c0 := (hbu.cell (p := ⟨b, j * 2, none⟩) HLB.out).trans HG.out.1; have c1 := (hbu.cell (p := ⟨b, j * 2 + 1, none⟩) HLB.out).trans HG.out.2.1; have c2 := (hbu.cell (p := ⟨b', j * 2, none⟩) HLB'.out).trans HG.out.2.2.1; have c3 := (hbu.cell (p := ⟨b', j * 2 + 1, none⟩) HLB'.out).trans HG.out.2.2.2
          refine Mono.if_want (Mono.want_at (c := false) rfl rfl (Mono.dep_at hdu (i := 11) (d := 29) rfl rfl rfl) rfl) ?_
          have z36 : a.eval (.tmp 36) = .slice (some ⟨b', 0, none⟩) n c' := Mono.dep_at hdu (i := 18) (d := 36) rfl rfl rfl
          simp [Act.eval] at z36
          have z37 : a.eval (.tmp 37) = .int .i64 (j : Int) := Mono.dep_at hdu (i := 19) (d := 37) rfl rfl rfl
          simp [Act.eval] at z37
          exact Mono.ok_val (.pointer (some ⟨b', j * 2, none⟩)) (by simp [execOp, z36, z37, go_sem, hltz, c0, c1, c2, c3]) rfl
        · intro a u hbu hsu hdu
          have c0 := (hbu.cell (p := ⟨b, j * 2, none⟩) HLB.out).trans HG.out.1; have c1 := (hbu.cell (p := ⟨b, j * 2 + 1, none⟩) HLB.out).trans HG.out.2.1; have c2 := (hbu.cell (p := ⟨b', j * 2, none⟩) HLB'.out).trans HG.out.2.2.1; have c3 := (hbu.cell (p := ⟨b', j * 2 + 1, none⟩) HLB'.out).trans HG.out.2.2.2
          refine Mono.if_want (Mono.want_at (c := false) rfl rfl (Mono.dep_at hdu (i := 11) (d := 29) rfl rfl rfl) rfl) ?_
          have z38 : a.eval (.tmp 38) = .pointer (some ⟨b', j * 2, none⟩) := Mono.dep_at hdu (i := 20) (d := 38) rfl rfl rfl
          simp [Act.eval] at z38
          exact Mono.ok_val (.pointer (some ⟨b', j * 2 + 1, none⟩)) (by simp [execOp, z38, go_sem, hltz, c0, c1, c2, c3]) rfl
        · intro a u hbu hsu hdu
          have c0 := (hbu.cell (p := ⟨b, j * 2, none⟩) HLB.out).trans HG.out.1; have c1 := (hbu.cell (p := ⟨b, j * 2 + 1, none⟩) HLB.out).trans HG.out.2.1; have c2 := (hbu.cell (p := ⟨b', j * 2, none⟩) HLB'.out).trans HG.out.2.2.1; have c3 := (hbu.cell (p := ⟨b', j * 2 + 1, none⟩) HLB'.out).trans HG.out.2.2.2
          refine Mono.if_want (Mono.want_at (c := false) rfl rfl (Mono.dep_at hdu (i := 11) (d := 29) rfl rfl rfl) rfl) ?_
          have z39 : a.eval (.tmp 39) = .pointer (some ⟨b', j * 2 + 1, none⟩) := Mono.dep_at hdu (i := 21) (d := 39) rfl rfl rfl
          simp [Act.eval] at z39
          exact Mono.ok_val (.slice pd' xd md') (by simp [execOp, z39, go_sem, hltz, c0, c1, c2, c3]) rfl
        · intro a u hbu hsu hdu
          have c0 := (hbu.cell (p := ⟨b, j * 2, none⟩) HLB.out).trans HG.out.1; have c1 := (hbu.cell (p := ⟨b, j * 2 + 1, none⟩) HLB.out).trans HG.out.2.1; have c2 := (hbu.cell (p := ⟨b', j * 2, none⟩) HLB'.out).trans HG.out.2.2.1; have c3 := (hbu.cell (p := ⟨b', j * 2 + 1, none⟩) HLB'.out).trans HG.out.2.2.2
          refine Mono.if_want (Mono.want_at (c := false) rfl rfl (Mono.dep_at hdu (i := 11) (d := 29) rfl rfl rfl) rfl) ?_
          have z40 : a.eval (.tmp 40) = .slice pd' xd md' := Mono.dep_at hdu (i := 22) (d := 40) rfl rfl rfl
          exact Mono.ok_conv 30 9 (.tmp 40) rfl _ (by rw [z40, ← HST.out]; exact Chunk.string30 (Row.below HRD'.out hbu).reads) rfl
        · intro a u hbu hsu hdu
          have c0 := (hbu.cell (p := ⟨b, j * 2, none⟩) HLB.out).trans HG.out.1; have c1 := (hbu.cell (p := ⟨b, j * 2 + 1, none⟩) HLB.out).trans HG.out.2.1; have c2 := (hbu.cell (p := ⟨b', j * 2, none⟩) HLB'.out).trans HG.out.2.2.1; have c3 := (hbu.cell (p := ⟨b', j * 2 + 1, none⟩) HLB'.out).trans HG.out.2.2.2
          refine Mono.if_want (Mono.want_at (c := false) rfl rfl (Mono.dep_at hdu (i := 11) (d := 29) rfl rfl rfl) rfl) ?_
          have z35 : a.eval (.tmp 35) = .string st := Mono.dep_at hdu (i := 17) (d := 35) rfl rfl rfl
          simp [Act.eval] at z35
          have z41 : a.eval (.tmp 41) = .string st := Mono.dep_at hdu (i := 23) (d := 41) rfl rfl rfl
          simp [Act.eval] at z41
          exact Mono.ok_val (.bool false) (by simp [execOp, z35, z41, go_sem, hltz, c0, c1, c2, c3]) rfl
        · intro a u hbu hsu hdu
          have c0 := (hbu.cell (p := ⟨b, j * 2, none⟩) HLB.out).trans HG.out.1; have c1 := (hbu.cell (p := ⟨b, j * 2 + 1, none⟩) HLB.out).trans HG.out.2.1; have c2 := (hbu.cell (p := ⟨b', j * 2, none⟩) HLB'.out).trans HG.out.2.2.1; have c3 := (hbu.cell (p := ⟨b', j * 2 + 1, none⟩) HLB'.out).trans HG.out.2.2.2
          refine Mono.if_want rfl ?_
          have z29 : a.eval (.tmp 29) = .bool false := Mono.dep_at hdu (i := 11) (d := 29) rfl rfl rfl
          simp [Act.eval] at z29
          have z42 : a.eval (.tmp 42) = .bool false := Mono.dep_at hdu (i := 24) (d := 42) rfl rfl rfl
          simp [Act.eval] at z42
          exact Mono.ok_val (.bool false) (by simp [execOp, z29, z42, go_sem, hltz, c0, c1, c2, c3]) rfl
      intro u hu
      simp only [Mono.Fin]
      rintro _ rfl _ rfl _ rfl _ rfl _ rfl _ rfl _ rfl _ rfl _ rfl _ rfl _ rfl _ rfl _ rfl _ rfl _ rfl _ rfl _ rfl _ rfl _ rfl _ rfl _ rfl _ rfl _ rfl _ rfl _ rfl _ rfl
      have HB2 := Lib.hid (HBL.out.trans (hu.mono HBL.out.size))
      clear hu
      simp [Act.put]
      go_wp2_with fail
      go_roundw
      case rel => exact ⟨j + 1, hlt, by go_num, HB2.out⟩
      case measure => simp [intOf]; omega
    · have hltz : ¬ (j : Int) < (n : Int) := by exact_mod_cast hlt
      have hltb : decide ((j : Int) < (n : Int)) = false := decide_eq_false hltz
      go_wp2_with fail
      go_ret
      exact ⟨rfl, HBL.out⟩
end Go.Proofs.Yteiiifonejkjbaa.Rb
