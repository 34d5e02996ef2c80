/-
  Contracts: judge (of one attribute), given what Fits answers; dict.own. (src/Dict2.src by genreg.py.)
-/
import Derived.Test.YtjfmahodbdianaaDoorDict1
import Derived.Test.YtjfmahodbdianaaDoorTpls
import Derived.Test.YtjfmahodbdianaaDoorWire1
namespace Go.Proofs.YtjfmahodbdianaaDoor.Dict
open Go.RowKit Mem Cells Ops Rule Avps
set_option linter.unusedVariables false
set_option linter.unusedSimpArgs false

/-- What Fits answers of this type and these bytes. -/
def FitsAt (w0 : World) (fit : Int → List Int → Int) (t : Int) (xs : List Int) : Prop :=
  ∀ (w : World) (v : Value), Below w0.heap.size w0 w → Reads .u8 w v xs → Calls Tryd.prog 24 #[.int .i64 t, v] w fun e w' => e = .returned (.int .i64 (fit t xs)) ∧ Below w.heap.size w w'
/-- Of one attribute, of which there are so many by now. -/
def judgeN (must : Bool) : Int := if must then 5001 else 2001
def judgeR (fit : Int → List Int → Int) (r : R) (xs : List Int) (n : Int) : Int :=
  if r.most = 0 then 5008 else if r.most < n then 5009 else if fit r.type xs = 0 then 2001 else if fit r.type xs = 3 then 5014 else 5004
set_option maxRecDepth 100000 in
theorem judgeNil (a : A) (d : Value) (n : Int) (w : World) (hd : d.oneCell' = true) :
    Calls Tryd.prog 19 #[.pointer none, .agg (row a d).toArray, .int .i64 n] w fun e w' => e = .returned (.int .i64 (judgeN a.must)) ∧ Below w.heap.size w w' := by
  obtain ⟨m, hm⟩ : ∃ m, a.must = m := ⟨_, rfl⟩
  have HM := Lib.hid hm
  rw [hm]
  clear hm
  cases m
  all_goals
    go_enter Tryd.func19, Tryd.ntmps19
    go_wp2_with ((with_reducible refine wpl_boxAt rfl 35 (.tmp 1) rfl (row a d).toArray ?_ ?_); rfl; go_must (intro w5 hat hb hs5; clear hs5; have c2 := hat.cell 2; simp [row, HM.out] at c2))
    go_ret
    exact ⟨rfl, hb⟩
set_option maxRecDepth 100000 in
set_option maxHeartbeats 1600000 in
theorem judgeSome (fit : Int → List Int → Int) (r : R) (av : A) (p : Option Addr) (m c : Nat) (n : Int) (b off : Nat) (w : World) (hr : r.ok) (hlt : b < w.heap.size) (hra : w.rangeAt b off (rowR r).toList) (hrd : Reads .u8 w (.slice p m c) av.data)
    (hn : 0 ≤ n ∧ n ≤ 9223372036854775807) (w0 : World) (hw0 : Below w0.heap.size w0 w) (hf : FitsAt w0 fit r.type av.data) :
    Calls Tryd.prog 19 #[.pointer (some ⟨b, off, none⟩), .agg (row av (.slice p m c)).toArray, .int .i64 n] w fun e w' => e = .returned (.int .i64 (judgeR fit r av.data n)) ∧ Below w.heap.size w w' := by
  have c2 := hra 2 _ rfl
  have c5 := hra 5 _ rfl
  clear hra
  obtain ⟨_, _, ⟨t1, t2⟩, _, ⟨m1, m2⟩⟩ := hr
  obtain ⟨n1, n2⟩ := hn
  have key : ∀ x, judgeR fit r av.data n = x → (Calls Tryd.prog 19 #[.pointer (some ⟨b, off, none⟩), .agg (row av (.slice p m c)).toArray, .int .i64 n] w fun e w' => e = .returned (.int .i64 x) ∧ Below w.heap.size w w') → Calls Tryd.prog 19 #[.pointer (some ⟨b, off, none⟩), .agg (row av (.slice p m c)).toArray, .int .i64 n] w fun e w' => e = .returned (.int .i64 (judgeR fit r av.data n)) ∧ Below w.heap.size w w' := by
    intro x hx h; rw [hx]; exact h
  by_cases h0 : r.most = 0
  · refine key 5008 (by unfold judgeR; rw [if_pos h0]) ?_
    clear key hf hrd
    rw [h0] at c5
    clear h0
    go_enter Tryd.func19, Tryd.ntmps19
    go_wp2_with ((with_reducible refine wpl_boxAt rfl 35 (.tmp 1) rfl (row av (.slice p m c)).toArray ?_ ?_); rfl; go_must (intro w5 hat hb hs5; clear hs5; have c5' := (hb.cell (p := ⟨b, off + 5, none⟩) hlt).trans c5))
    go_ret
    exact ⟨rfl, hb⟩
  have b0 : (r.most == 0) = false := by simpa using h0
  by_cases h1 : r.most < n
  · refine key 5009 (by unfold judgeR; rw [if_neg h0, if_pos h1]) ?_
    clear key hf hrd h0
    go_enter Tryd.func19, Tryd.ntmps19
    go_wp2_with ((with_reducible refine wpl_boxAt rfl 35 (.tmp 1) rfl (row av (.slice p m c)).toArray ?_ ?_); rfl; go_must (intro w5 hat hb hs5; clear hs5; have c5' := (hb.cell (p := ⟨b, off + 5, none⟩) hlt).trans c5))
    go_ret
    exact ⟨rfl, hb⟩
  have hj : judgeR fit r av.data n = if fit r.type av.data = 0 then 2001 else if fit r.type av.data = 3 then 5014 else 5004 := by unfold judgeR; rw [if_neg h0, if_neg h1]
  obtain ⟨f, hfe⟩ : ∃ f, fit r.type av.data = f := ⟨_, rfl⟩
  have PF := Lib.hid (show ∀ (w : World) (v : Value), Below w0.heap.size w0 w → Reads .u8 w v av.data → Calls Tryd.prog 24 #[.int .i64 r.type, v] w fun e w' => e = .returned (.int .i64 f) ∧ Below w.heap.size w w' by rw [← hfe]; exact hf)
  have HRD := Lib.hid hrd
  rw [hfe] at hj
  clear hf hfe h0 hrd
  by_cases g0 : f = 0
  · refine key 2001 (by rw [hj, if_pos g0]) ?_
    clear key hj
    subst g0
    go_enter Tryd.func19, Tryd.ntmps19
    go_wp2_with ((with_reducible refine wpl_boxAt rfl 35 (.tmp 1) rfl (row av (.slice p m c)).toArray ?_ ?_); rfl; go_must (intro w5 hat hb hs5; clear hs5; have c5' := (hb.cell (p := ⟨b, off + 5, none⟩) hlt).trans c5))
    have c2' := (hb.cell (p := ⟨b, off + 2, none⟩) hlt).trans c2
    have hlt' : b < w5.heap.size := Nat.lt_of_lt_of_le hlt hb.size
    have c4 := hat.cell 4
    simp [row] at c4
    have hla := hat.lt
    refine Mono.wp_region_mono [some 30, some 31, some 32, some 33, some 34, some 35, some 36] [Mono.isV (.pointer (some ⟨b, off, none⟩)), Mono.isV (.pointer (some ⟨b, off, none⟩)), Mono.isV (.pointer (some ⟨b, off + 2, none⟩)), Mono.isV (.int .i64 r.type), Mono.isV (.pointer (some ⟨w.heap.size, 4, none⟩)), Mono.isV (.slice p m c), Mono.isV (.int .i64 0)] (by kernel_rfl) (by kernel_rfl) ?_ ?_
    · simp only [Mono.OpGoals, and_true]
      refine ⟨?_, ?_, ?_, ?_, ?_, ?_, ?_⟩
      · intro a u hbu hsu hdu
        have q2 := (hbu.cell (p := ⟨b, off + 2, none⟩) hlt').trans c2'; have q4 := (hbu.cell (p := ⟨w.heap.size, 4, none⟩) hla).trans c4
        refine Mono.if_want rfl ?_
        exact Mono.ok_move (.tmp 0) rfl (hsu 0 (by decide))
      · intro a u hbu hsu hdu
        have q2 := (hbu.cell (p := ⟨b, off + 2, none⟩) hlt').trans c2'; have q4 := (hbu.cell (p := ⟨w.heap.size, 4, none⟩) hla).trans c4
        refine Mono.if_want rfl ?_
        have z30 : a.eval (.tmp 30) = .pointer (some ⟨b, off, none⟩) := Mono.dep_at hdu (i := 0) (d := 30) rfl rfl rfl
        simp [Act.eval] at z30
        exact Mono.ok_val (.pointer (some ⟨b, off, none⟩)) (by simp [execOp, z30, go_sem, q2, q4]) rfl
      · intro a u hbu hsu hdu
        have q2 := (hbu.cell (p := ⟨b, off + 2, none⟩) hlt').trans c2'; have q4 := (hbu.cell (p := ⟨w.heap.size, 4, none⟩) hla).trans c4
        refine Mono.if_want rfl ?_
        have z31 : a.eval (.tmp 31) = .pointer (some ⟨b, off, none⟩) := Mono.dep_at hdu (i := 1) (d := 31) rfl rfl rfl
        simp [Act.eval] at z31
        exact Mono.ok_val (.pointer (some ⟨b, off + 2, none⟩)) (by simp [execOp, z31, go_sem, q2, q4]) rfl
      · intro a u hbu hsu hdu
        have q2 := (hbu.cell (p := ⟨b, off + 2, none⟩) hlt').trans c2'; have q4 := (hbu.cell (p := ⟨w.heap.size, 4, none⟩) hla).trans c4
        refine Mono.if_want rfl ?_
        have z32 : a.eval (.tmp 32) = .pointer (some ⟨b, off + 2, none⟩) := Mono.dep_at hdu (i := 2) (d := 32) rfl rfl rfl
        simp [Act.eval] at z32
        exact Mono.ok_val (.int .i64 r.type) (by simp [execOp, z32, go_sem, q2, q4]) rfl
      · intro a u hbu hsu hdu
        have q2 := (hbu.cell (p := ⟨b, off + 2, none⟩) hlt').trans c2'; have q4 := (hbu.cell (p := ⟨w.heap.size, 4, none⟩) hla).trans c4
        refine Mono.if_want rfl ?_
        have z4 : a.eval (.tmp 4) = .pointer (some ⟨w.heap.size, 0, none⟩) := hsu 4 (by decide)
        simp [Act.eval] at z4
        exact Mono.ok_val (.pointer (some ⟨w.heap.size, 4, none⟩)) (by simp [execOp, z4, go_sem, q2, q4]) rfl
      · intro a u hbu hsu hdu
        have q2 := (hbu.cell (p := ⟨b, off + 2, none⟩) hlt').trans c2'; have q4 := (hbu.cell (p := ⟨w.heap.size, 4, none⟩) hla).trans c4
        refine Mono.if_want rfl ?_
        have z34 : a.eval (.tmp 34) = .pointer (some ⟨w.heap.size, 4, none⟩) := Mono.dep_at hdu (i := 4) (d := 34) rfl rfl rfl
        simp [Act.eval] at z34
        exact Mono.ok_val (.slice p m c) (by simp [execOp, z34, go_sem, q2, q4]) rfl
      · intro a u hbu hsu hdu
        have q2 := (hbu.cell (p := ⟨b, off + 2, none⟩) hlt').trans c2'; have q4 := (hbu.cell (p := ⟨w.heap.size, 4, none⟩) hla).trans c4
        refine Mono.if_want rfl ?_
        have z33 : a.eval (.tmp 33) = .int .i64 r.type := Mono.dep_at hdu (i := 3) (d := 33) rfl rfl rfl
        simp [Act.eval] at z33
        have z35 : a.eval (.tmp 35) = .slice p m c := Mono.dep_at hdu (i := 5) (d := 35) rfl rfl rfl
        simp [Act.eval] at z35
        refine Mono.ok_call 24 _ _ rfl #[.int .i64 r.type, .slice p m c] (by simp [execOp, z33, z35, go_sem]) ((PF.out u _ (hw0.trans ((hb.trans (hbu.mono hb.size)).mono hw0.size)) (HRD.out.below (hb.trans (hbu.mono hb.size)))).mono ?_)
        rintro e y1 ⟨rfl, hb1⟩
        exact ⟨_, rfl, hb1, rfl⟩
    intro u hu
    simp only [Mono.Fin]
    rintro _ rfl _ rfl _ rfl _ rfl _ rfl _ rfl _ rfl
    simp [Act.put]
    go_wp2
    go_ret
    exact ⟨rfl, hb.trans (hu.mono hb.size)⟩
  have bf : (f == 0) = false := by simpa using g0
  by_cases g3 : f = 3
  · refine key 5014 (by rw [hj, if_neg g0, if_pos g3]) ?_
    clear key hj g0
    subst g3
    go_enter Tryd.func19, Tryd.ntmps19
    go_wp2_with ((with_reducible refine wpl_boxAt rfl 35 (.tmp 1) rfl (row av (.slice p m c)).toArray ?_ ?_); rfl; go_must (intro w5 hat hb hs5; clear hs5; have c5' := (hb.cell (p := ⟨b, off + 5, none⟩) hlt).trans c5))
    have c2' := (hb.cell (p := ⟨b, off + 2, none⟩) hlt).trans c2
    have hlt' : b < w5.heap.size := Nat.lt_of_lt_of_le hlt hb.size
    have c4 := hat.cell 4
    simp [row] at c4
    have hla := hat.lt
    refine Mono.wp_region_mono [some 30, some 31, some 32, some 33, some 34, some 35, some 36] [Mono.isV (.pointer (some ⟨b, off, none⟩)), Mono.isV (.pointer (some ⟨b, off, none⟩)), Mono.isV (.pointer (some ⟨b, off + 2, none⟩)), Mono.isV (.int .i64 r.type), Mono.isV (.pointer (some ⟨w.heap.size, 4, none⟩)), Mono.isV (.slice p m c), Mono.isV (.int .i64 3)] (by kernel_rfl) (by kernel_rfl) ?_ ?_
    · simp only [Mono.OpGoals, and_true]
      refine ⟨?_, ?_, ?_, ?_, ?_, ?_, ?_⟩
      · intro a u hbu hsu hdu
        have q2 := (hbu.cell (p := ⟨b, off + 2, none⟩) hlt').trans c2'; have q4 := (hbu.cell (p := ⟨w.heap.size, 4, none⟩) hla).trans c4
        refine Mono.if_want rfl ?_
        exact Mono.ok_move (.tmp 0) rfl (hsu 0 (by decide))
      · intro a u hbu hsu hdu
        have q2 := (hbu.cell (p := ⟨b, off + 2, none⟩) hlt').trans c2'; have q4 := (hbu.cell (p := ⟨w.heap.size, 4, none⟩) hla).trans c4
        refine Mono.if_want rfl ?_
        have z30 : a.eval (.tmp 30) = .pointer (some ⟨b, off, none⟩) := Mono.dep_at hdu (i := 0) (d := 30) rfl rfl rfl
        simp [Act.eval] at z30
        exact Mono.ok_val (.pointer (some ⟨b, off, none⟩)) (by simp [execOp, z30, go_sem, q2, q4]) rfl
      · intro a u hbu hsu hdu
        have q2 := (hbu.cell (p := ⟨b, off + 2, none⟩) hlt').trans c2'; have q4 := (hbu.cell (p := ⟨w.heap.size, 4, none⟩) hla).trans c4
        refine Mono.if_want rfl ?_
        have z31 : a.eval (.tmp 31) = .pointer (some ⟨b, off, none⟩) := Mono.dep_at hdu (i := 1) (d := 31) rfl rfl rfl
        simp [Act.eval] at z31
        exact Mono.ok_val (.pointer (some ⟨b, off + 2, none⟩)) (by simp [execOp, z31, go_sem, q2, q4]) rfl
      · intro a u hbu hsu hdu
        have q2 := (hbu.cell (p := ⟨b, off + 2, none⟩) hlt').trans c2'; have q4 := (hbu.cell (p := ⟨w.heap.size, 4, none⟩) hla).trans c4
        refine Mono.if_want rfl ?_
        have z32 : a.eval (.tmp 32) = .pointer (some ⟨b, off + 2, none⟩) := Mono.dep_at hdu (i := 2) (d := 32) rfl rfl rfl
        simp [Act.eval] at z32
        exact Mono.ok_val (.int .i64 r.type) (by simp [execOp, z32, go_sem, q2, q4]) rfl
      · intro a u hbu hsu hdu
        have q2 := (hbu.cell (p := ⟨b, off + 2, none⟩) hlt').trans c2'; have q4 := (hbu.cell (p := ⟨w.heap.size, 4, none⟩) hla).trans c4
        refine Mono.if_want rfl ?_
        have z4 : a.eval (.tmp 4) = .pointer (some ⟨w.heap.size, 0, none⟩) := hsu 4 (by decide)
        simp [Act.eval] at z4
        exact Mono.ok_val (.pointer (some ⟨w.heap.size, 4, none⟩)) (by simp [execOp, z4, go_sem, q2, q4]) rfl
      · intro a u hbu hsu hdu
        have q2 := (hbu.cell (p := ⟨b, off + 2, none⟩) hlt').trans c2'; have q4 := (hbu.cell (p := ⟨w.heap.size, 4, none⟩) hla).trans c4
        refine Mono.if_want rfl ?_
        have z34 : a.eval (.tmp 34) = .pointer (some ⟨w.heap.size, 4, none⟩) := Mono.dep_at hdu (i := 4) (d := 34) rfl rfl rfl
        simp [Act.eval] at z34
        exact Mono.ok_val (.slice p m c) (by simp [execOp, z34, go_sem, q2, q4]) rfl
      · intro a u hbu hsu hdu
        have q2 := (hbu.cell (p := ⟨b, off + 2, none⟩) hlt').trans c2'; have q4 := (hbu.cell (p := ⟨w.heap.size, 4, none⟩) hla).trans c4
        refine Mono.if_want rfl ?_
        have z33 : a.eval (.tmp 33) = .int .i64 r.type := Mono.dep_at hdu (i := 3) (d := 33) rfl rfl rfl
        simp [Act.eval] at z33
        have z35 : a.eval (.tmp 35) = .slice p m c := Mono.dep_at hdu (i := 5) (d := 35) rfl rfl rfl
        simp [Act.eval] at z35
        refine Mono.ok_call 24 _ _ rfl #[.int .i64 r.type, .slice p m c] (by simp [execOp, z33, z35, go_sem]) ((PF.out u _ (hw0.trans ((hb.trans (hbu.mono hb.size)).mono hw0.size)) (HRD.out.below (hb.trans (hbu.mono hb.size)))).mono ?_)
        rintro e y1 ⟨rfl, hb1⟩
        exact ⟨_, rfl, hb1, rfl⟩
    intro u hu
    simp only [Mono.Fin]
    rintro _ rfl _ rfl _ rfl _ rfl _ rfl _ rfl _ rfl
    simp [Act.put]
    go_wp2
    go_ret
    exact ⟨rfl, hb.trans (hu.mono hb.size)⟩
  have bg : (f == 3) = false := by simpa using g3
  refine key 5004 (by rw [hj, if_neg g0, if_neg g3]) ?_
  clear key hj g0 g3
  go_enter Tryd.func19, Tryd.ntmps19
  go_wp2_with ((with_reducible refine wpl_boxAt rfl 35 (.tmp 1) rfl (row av (.slice p m c)).toArray ?_ ?_); rfl; go_must (intro w5 hat hb hs5; clear hs5; have c5' := (hb.cell (p := ⟨b, off + 5, none⟩) hlt).trans c5))
  have c2' := (hb.cell (p := ⟨b, off + 2, none⟩) hlt).trans c2
  have hlt' : b < w5.heap.size := Nat.lt_of_lt_of_le hlt hb.size
  have c4 := hat.cell 4
  simp [row] at c4
  have hla := hat.lt
  refine Mono.wp_region_mono [some 30, some 31, some 32, some 33, some 34, some 35, some 36] [Mono.isV (.pointer (some ⟨b, off, none⟩)), Mono.isV (.pointer (some ⟨b, off, none⟩)), Mono.isV (.pointer (some ⟨b, off + 2, none⟩)), Mono.isV (.int .i64 r.type), Mono.isV (.pointer (some ⟨w.heap.size, 4, none⟩)), Mono.isV (.slice p m c), Mono.isV (.int .i64 f)] (by kernel_rfl) (by kernel_rfl) ?_ ?_
  · simp only [Mono.OpGoals, and_true]
    refine ⟨?_, ?_, ?_, ?_, ?_, ?_, ?_⟩
    · intro a u hbu hsu hdu
      have q2 := (hbu.cell (p := ⟨b, off + 2, none⟩) hlt').trans c2'; have q4 := (hbu.cell (p := ⟨w.heap.size, 4, none⟩) hla).trans c4
      refine Mono.if_want rfl ?_
      exact Mono.ok_move (.tmp 0) rfl (hsu 0 (by decide))
    · intro a u hbu hsu hdu
      have q2 := (hbu.cell (p := ⟨b, off + 2, none⟩) hlt').trans c2'; have q4 := (hbu.cell (p := ⟨w.heap.size, 4, none⟩) hla).trans c4
      refine Mono.if_want rfl ?_
      have z30 : a.eval (.tmp 30) = .pointer (some ⟨b, off, none⟩) := Mono.dep_at hdu (i := 0) (d := 30) rfl rfl rfl
      simp [Act.eval] at z30
      exact Mono.ok_val (.pointer (some ⟨b, off, none⟩)) (by simp [execOp, z30, go_sem, q2, q4]) rfl
    · intro a u hbu hsu hdu
      have q2 := (hbu.cell (p := ⟨b, off + 2, none⟩) hlt').trans c2'; have q4 := (hbu.cell (p := ⟨w.heap.size, 4, none⟩) hla).trans c4
      refine Mono.if_want rfl ?_
      have z31 : a.eval (.tmp 31) = .pointer (some ⟨b, off, none⟩) := Mono.dep_at hdu (i := 1) (d := 31) rfl rfl rfl
      simp [Act.eval] at z31
      exact Mono.ok_val (.pointer (some ⟨b, off + 2, none⟩)) (by simp [execOp, z31, go_sem, q2, q4]) rfl
    · intro a u hbu hsu hdu
      have q2 := (hbu.cell (p := ⟨b, off + 2, none⟩) hlt').trans c2'; have q4 := (hbu.cell (p := ⟨w.heap.size, 4, none⟩) hla).trans c4
      refine Mono.if_want rfl ?_
      have z32 : a.eval (.tmp 32) = .pointer (some ⟨b, off + 2, none⟩) := Mono.dep_at hdu (i := 2) (d := 32) rfl rfl rfl
      simp [Act.eval] at z32
      exact Mono.ok_val (.int .i64 r.type) (by simp [execOp, z32, go_sem, q2, q4]) rfl
    · intro a u hbu hsu hdu
      have q2 := (hbu.cell (p := ⟨b, off + 2, none⟩) hlt').trans c2'; have q4 := (hbu.cell (p := ⟨w.heap.size, 4, none⟩) hla).trans c4
      refine Mono.if_want rfl ?_
      have z4 : a.eval (.tmp 4) = .pointer (some ⟨w.heap.size, 0, none⟩) := hsu 4 (by decide)
      simp [Act.eval] at z4
      exact Mono.ok_val (.pointer (some ⟨w.heap.size, 4, none⟩)) (by simp [execOp, z4, go_sem, q2, q4]) rfl
    · intro a u hbu hsu hdu
      have q2 := (hbu.cell (p := ⟨b, off + 2, none⟩) hlt').trans c2'; have q4 := (hbu.cell (p := ⟨w.heap.size, 4, none⟩) hla).trans c4
      refine Mono.if_want rfl ?_
      have z34 : a.eval (.tmp 34) = .pointer (some ⟨w.heap.size, 4, none⟩) := Mono.dep_at hdu (i := 4) (d := 34) rfl rfl rfl
      simp [Act.eval] at z34
      exact Mono.ok_val (.slice p m c) (by simp [execOp, z34, go_sem, q2, q4]) rfl
    · intro a u hbu hsu hdu
      have q2 := (hbu.cell (p := ⟨b, off + 2, none⟩) hlt').trans c2'; have q4 := (hbu.cell (p := ⟨w.heap.size, 4, none⟩) hla).trans c4
      refine Mono.if_want rfl ?_
      have z33 : a.eval (.tmp 33) = .int .i64 r.type := Mono.dep_at hdu (i := 3) (d := 33) rfl rfl rfl
      simp [Act.eval] at z33
      have z35 : a.eval (.tmp 35) = .slice p m c := Mono.dep_at hdu (i := 5) (d := 35) rfl rfl rfl
      simp [Act.eval] at z35
      refine Mono.ok_call 24 _ _ rfl #[.int .i64 r.type, .slice p m c] (by simp [execOp, z33, z35, go_sem]) ((PF.out u _ (hw0.trans ((hb.trans (hbu.mono hb.size)).mono hw0.size)) (HRD.out.below (hb.trans (hbu.mono hb.size)))).mono ?_)
      rintro e y1 ⟨rfl, hb1⟩
      exact ⟨_, rfl, hb1, rfl⟩
  intro u hu
  simp only [Mono.Fin]
  rintro _ rfl _ rfl _ rfl _ rfl _ rfl _ rfl _ rfl
  simp [Act.put]
  go_wp2
  go_ret
  exact ⟨rfl, hb.trans (hu.mono hb.size)⟩
end Go.Proofs.YtjfmahodbdianaaDoor.Dict
