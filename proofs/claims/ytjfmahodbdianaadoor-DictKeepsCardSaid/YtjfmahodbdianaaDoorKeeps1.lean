/-
  DictKeeps: the walk. (src/Keeps1.src by genreg.py.)
-/
import Derived.Test.YtjfmahodbdianaaDoorLaws1
import Derived.Test.YtjfmahodbdianaaDoorSame1
import Derived.Test.YtjfmahodbdianaaDoorMonoT
namespace Go.Proofs.YtjfmahodbdianaaDoor.Dict
open Go.RowKit Mem Cells Ops Rule Avps Go.Maps
set_option linter.unusedVariables false
set_option linter.unusedSimpArgs false

theorem readsL_one {w : World} {g : Nat} {x : A} {d : Value} (h : At w g 35 (row x d).toArray) (hd : Reads .u8 w d x.data) : ReadsL w (.slice (some ⟨g, 0, none⟩) 1 1) [x] := by
  refine ⟨_, 1, [(x, d)], rfl, Nat.le_refl _, by simp [maxLen], (fun h => by cases h), rfl, fun z hz => ?_, fun _ => ⟨g, 0, rfl, h.lt, fun j hj => ?_⟩⟩
  · rw [List.mem_singleton] at hz
    subst hz
    exact hd
  · rw [Nat.zero_add, h.cell j, flat_one]
    simp
def aK (xs : List Int) : A := ⟨9, 0, true, false, xs⟩
def ruleB : R := ⟨1, 0, 1, false, 2, 1⟩
theorem ruleB_ok : ∀ r ∈ [ruleB], r.ok := by
  intro r hr
  rw [List.mem_singleton] at hr
  subst hr
  unfold R.ok i64 ruleB
  decide
theorem verdictK (xs : List Int) : verdict (fun _ _ => 0) [] [aK xs] = (5001, [aK xs], 0) := verdict_bad (k := 0) ⟨by decide, fine_of _ (by decide)⟩ rfl (fun j h => absurd h (Nat.not_lt_zero _)) rfl (by decide)
theorem verdictB (l : List A) : verdict (fun _ _ => 0) [ruleB] l = (0, [], 2) := verdict_form (fun h => (h.2 0 ruleB rfl).1 (by unfold bad ruleB; decide))
theorem aK_ok (xs : List Int) (h : ∀ x ∈ xs, 0 ≤ x ∧ x ≤ 255) : (aK xs).ok := ⟨⟨by show (0 : Int) ≤ 9; omega, by show (9 : Int) ≤ 4294967295; omega⟩, ⟨by show (0 : Int) ≤ 0; omega, by show (0 : Int) ≤ 4294967295; omega⟩, h⟩
set_option maxRecDepth 100000 in
set_option maxHeartbeats 3200000 in
theorem keeps_ (v : Value) (xs : List Int) (w : World) (hr : Reads .u8 w v xs) (hx : ∀ x ∈ xs, 0 ≤ x ∧ x ≤ 255) (hl : xs.length ≤ 140737488351232) : Calls Tryd.prog 7 #[v] w fun e w' => e = .returned (.bool true) ∧ Below w.heap.size w w' := by
  obtain ⟨p, c, rfl, h1, h2, _, _⟩ := id hr
  have PJ := Lib.hid (fun (u : Value) y (h : ReadsL y u [aK xs]) => by
    have := judge (fun _ _ => 0) [] [aK xs] (.slice none 0 0) u y (ReadsR.nil y) h (fun x hx => by cases hx) (fun x hy => by rw [List.mem_singleton] at hy; subst hy; exact ⟨aK_ok xs hx, by show xs.length ≤ _; omega⟩) (fun x hx r hr => by cases hr)
    rwa [verdictK] at this)
  have PB := Lib.hid (fun (v u : Value) y (h : ReadsL y u [aK xs]) (hv : ReadsR y v [ruleB]) => by
    have := judge (fun _ _ => 0) [ruleB] [aK xs] v u y hv h ruleB_ok (fun x hy => by rw [List.mem_singleton] at hy; subst hy; exact ⟨aK_ok xs hx, by show xs.length ≤ _; omega⟩) (fun x hy r hr hh => by rw [List.mem_singleton] at hy hr; subst hy; subst hr; cases hh)
    rwa [verdictB] at this)
  have PA := Lib.hid (fun u => answers u)
  have HRD := Lib.hid hr
  obtain ⟨n, hn⟩ : ∃ n, xs.length = n := ⟨_, rfl⟩
  have HN := Lib.hid hn
  have K1 : ([] : List Int).length + xs.length ≤ maxLen := by simp [maxLen]; omega
  have K2 : (([] : List Int).length + xs.length) * 1 ≤ 140737488355328 := by simp; omega
  clear hr
  rw [hn] at hl h1 ⊢
  clear hn
  go_enter Tryd.func7, Tryd.ntmps7
  go_wp2_with (first
    | (refine wpl_empty rfl 32 5 rfl .u8 (fun _ => by kernel_rfl) ?_; go_must (intro w1 hown1 hb1 hs1; have hrd1 := HRD.out.below hb1))
    | (at_builtin; have _t := hown1; clear _t; go_must (obtain ⟨i0, hi, hz0, hz1, hz2⟩ := info_parts Wire.info5; refine wpl_append rfl (.tmp 12) (.tmp 13) 32 rfl .u8 w.heap.size 5 1 i0 (.int .u8 0) Tryd.underlying32 hi hz0 hz1 hz2 rfl (.slice (some ⟨w.heap.size, 0, none⟩) 0 0) _ [] xs rfl (by show Value.slice p n c = _; rfl) hown1 (by have := hrd1; rwa [HN.out] at this) K1 K2 (by have := hb1.size; omega) ?_; intro v4 w4 hv4 hg4; rw [List.nil_append] at hv4; clear hi hz0 hz1 hz2; obtain ⟨p4, c4, rfl, kk1, kk2, kk3, kk4⟩ := hv4.reads; have hb4 := hb1.grown hg4 hb1.size (fun q e => by have e' : w.heap.size = q := Option.some.inj e; omega); clear hown1 hrd1 hb1 kk3 kk4 hg4 K1 K2 kk1 kk2))
    | ((with_reducible refine wpl_buildS rfl 23 1 #[(0, .tmp 16)] rfl #[(0, .agg (row (aK xs) (.slice p4 xs.length c4)).toArray)] ?_ 35 (row (aK xs) (.slice p4 xs.length c4)).toArray (fun _ => Avp.build22 _ _ _) ?_); (simp [Act.eval, row, aK]); go_must (intro u1 hat1 hb hs; clear hs; have hv5 := hv4.below hb; have hb5 := hb4.trans (hb.mono hb4.size); have hL1 := hat1.lt; clear hb4))
    | (go_at_call 10; have _t := PJ; clear _t; go_must (refine (PJ.out _ _ (readsL_one hat1 hv5.reads)).mono ?_; rintro e u2 ⟨v', rfl, hfl, hb2⟩; obtain ⟨gF, d, rfl, hgF, hat2, hrow⟩ := hfl; clear PJ)))
  have hbw2 := hb5.trans (hb2.mono hb5.size)
  have HRN := Lib.hid (show Reads .u8 w (.slice p n c) xs by have := HRD.out; rwa [HN.out] at this)
  obtain ⟨pd, cd, rfl, _, _, _, _⟩ := hrow.reads
  have e0 : (aK xs).data = xs := rfl
  rw [e0] at hrow hat2
  have HV5 := Lib.hid (show Reads .u8 u1 (.slice p4 n c4) xs by have := hv5.reads; rwa [HN.out] at this)
  have HV5' := Lib.hid (show Reads .u8 u1 (.slice p4 n c4) (aK xs).data from HV5.out)
  have hatL : At u1 w4.heap.size 35 (row (aK xs) (.slice p4 n c4)).toArray := by rw [← HN.out]; exact hat1
  have HD2 := Lib.hid (show Reads .u8 u2 (.slice pd n cd) xs by have := hrow.reads; rwa [HN.out] at this)
  have hat3 : At u2 gF 35 (row (aK xs) (.slice pd n cd)).toArray := by rw [← HN.out]; exact hat2
  obtain ⟨gL, hgL⟩ : ∃ q, w4.heap.size = q := ⟨_, rfl⟩
  rw [hgL] at hatL hL1 ⊢
  clear hat2 hat1 hgL
  have hat2 := hat3
  refine Mono.wp_region_mono [some 24, some 25, some 26, some 27, some 28, some 29, some 30, some 31, some 32, some 33, some 34, some 35, some 36, some 37, some 38, some 39, some 40, some 41, some 42, some 43, some 44, some 45, some 46, some 47, some 48] [Mono.isV (.bool true), Mono.isV (.bool false), Mono.isV (.bool false), Mono.isV (.int .i64 5001), Mono.isV (.bool false), Mono.isV (.bool false), Mono.isV (.bool false), Mono.isV (.int .i64 0), Mono.isV (.bool false), Mono.isV (.bool false), Mono.isV (.bool false), Mono.isV (.slice (some ⟨gF, 0, none⟩) 1 1), Mono.isV (.int .i64 1), Mono.isV (.bool false), Mono.isV (.bool false), Mono.isV (.bool false), Mono.isV (.slice (some ⟨gF, 0, none⟩) 1 1), Mono.isV (.pointer (some ⟨gF, 0, none⟩)), Mono.isV (.pointer (some ⟨gF, 4, none⟩)), Mono.isV (.slice pd n cd), Mono.isV (.string (strOfNums xs)), Mono.isV (.slice p n c), Mono.isV (.string (strOfNums xs)), Mono.isV (.bool false), Mono.isV (.bool false)] (by kernel_rfl) (by kernel_rfl) ?_ ?_
  · simp only [Mono.OpGoals, and_true]
    refine ⟨?_, ?_, ?_, ?_, ?_, ?_, ?_, ?_, ?_, ?_, ?_, ?_, ?_, ?_, ?_, ?_, ?_, ?_, ?_, ?_, ?_, ?_, ?_, ?_, ?_⟩
    · intro a u hbu hsu hdu
      have q4 := (hat2.ext hbu).cell 4; simp [row] at q4
      refine Mono.if_want rfl ?_
      refine Mono.ok_call 8 _ _ rfl #[] (by simp [execOp, go_sem]) ((PA.out u).mono ?_)
      rintro e y1 ⟨rfl, hb1⟩
      exact ⟨_, rfl, hb1, rfl⟩
    · intro a u hbu hsu hdu
      have q4 := (hat2.ext hbu).cell 4; simp [row] at q4
      refine Mono.if_want rfl ?_
      have z24 : a.eval (.tmp 24) = .bool true := Mono.dep_at hdu (i := 0) (d := 24) rfl rfl rfl
      simp [Act.eval] at z24
      exact Mono.ok_val (.bool false) (by simp [execOp, z24, go_sem, q4]) rfl
    · intro a u hbu hsu hdu
      have q4 := (hat2.ext hbu).cell 4; simp [row] at q4
      refine Mono.if_want rfl ?_
      exact Mono.ok_move (.tmp 25) rfl (Mono.dep_at hdu (i := 1) (d := 25) rfl rfl rfl)
    · intro a u hbu hsu hdu
      have q4 := (hat2.ext hbu).cell 4; simp [row] at q4
      refine Mono.if_want (Mono.want_at (c := false) rfl rfl (Mono.dep_at hdu (i := 2) (d := 26) rfl rfl rfl) rfl) ?_
      exact Mono.ok_move (.tmp 5) rfl (hsu 5 (by decide))
    · intro a u hbu hsu hdu
      have q4 := (hat2.ext hbu).cell 4; simp [row] at q4
      refine Mono.if_want (Mono.want_at (c := false) rfl rfl (Mono.dep_at hdu (i := 2) (d := 26) rfl rfl rfl) rfl) ?_
      have z27 : a.eval (.tmp 27) = .int .i64 5001 := Mono.dep_at hdu (i := 3) (d := 27) rfl rfl rfl
      simp [Act.eval] at z27
      exact Mono.ok_val (.bool false) (by simp [execOp, z27, go_sem, q4]) rfl
    · intro a u hbu hsu hdu
      have q4 := (hat2.ext hbu).cell 4; simp [row] at q4
      refine Mono.if_want rfl ?_
      have z26 : a.eval (.tmp 26) = .bool false := Mono.dep_at hdu (i := 2) (d := 26) rfl rfl rfl
      simp [Act.eval] at z26
      have z28 : a.eval (.tmp 28) = .bool false := Mono.dep_at hdu (i := 4) (d := 28) rfl rfl rfl
      simp [Act.eval] at z28
      exact Mono.ok_val (.bool false) (by simp [execOp, z26, z28, go_sem, q4]) rfl
    · intro a u hbu hsu hdu
      have q4 := (hat2.ext hbu).cell 4; simp [row] at q4
      refine Mono.if_want rfl ?_
      exact Mono.ok_move (.tmp 29) rfl (Mono.dep_at hdu (i := 5) (d := 29) rfl rfl rfl)
    · intro a u hbu hsu hdu
      have q4 := (hat2.ext hbu).cell 4; simp [row] at q4
      refine Mono.if_want (Mono.want_at (c := false) rfl rfl (Mono.dep_at hdu (i := 6) (d := 30) rfl rfl rfl) rfl) ?_
      exact Mono.ok_move (.tmp 7) rfl (hsu 7 (by decide))
    · intro a u hbu hsu hdu
      have q4 := (hat2.ext hbu).cell 4; simp [row] at q4
      refine Mono.if_want (Mono.want_at (c := false) rfl rfl (Mono.dep_at hdu (i := 6) (d := 30) rfl rfl rfl) rfl) ?_
      have z31 : a.eval (.tmp 31) = .int .i64 0 := Mono.dep_at hdu (i := 7) (d := 31) rfl rfl rfl
      simp [Act.eval] at z31
      exact Mono.ok_val (.bool false) (by simp [execOp, z31, go_sem, q4]) rfl
    · intro a u hbu hsu hdu
      have q4 := (hat2.ext hbu).cell 4; simp [row] at q4
      refine Mono.if_want rfl ?_
      have z30 : a.eval (.tmp 30) = .bool false := Mono.dep_at hdu (i := 6) (d := 30) rfl rfl rfl
      simp [Act.eval] at z30
      have z32 : a.eval (.tmp 32) = .bool false := Mono.dep_at hdu (i := 8) (d := 32) rfl rfl rfl
      simp [Act.eval] at z32
      exact Mono.ok_val (.bool false) (by simp [execOp, z30, z32, go_sem, q4]) rfl
    · intro a u hbu hsu hdu
      have q4 := (hat2.ext hbu).cell 4; simp [row] at q4
      refine Mono.if_want rfl ?_
      exact Mono.ok_move (.tmp 33) rfl (Mono.dep_at hdu (i := 9) (d := 33) rfl rfl rfl)
    · intro a u hbu hsu hdu
      have q4 := (hat2.ext hbu).cell 4; simp [row] at q4
      refine Mono.if_want (Mono.want_at (c := false) rfl rfl (Mono.dep_at hdu (i := 10) (d := 34) rfl rfl rfl) rfl) ?_
      exact Mono.ok_move (.tmp 6) rfl (hsu 6 (by decide))
    · intro a u hbu hsu hdu
      have q4 := (hat2.ext hbu).cell 4; simp [row] at q4
      refine Mono.if_want (Mono.want_at (c := false) rfl rfl (Mono.dep_at hdu (i := 10) (d := 34) rfl rfl rfl) rfl) ?_
      have z35 : a.eval (.tmp 35) = .slice (some ⟨gF, 0, none⟩) 1 1 := Mono.dep_at hdu (i := 11) (d := 35) rfl rfl rfl
      simp [Act.eval] at z35
      exact Mono.ok_val (.int .i64 1) (by simp [execOp, z35, go_sem, q4]) rfl
    · intro a u hbu hsu hdu
      have q4 := (hat2.ext hbu).cell 4; simp [row] at q4
      refine Mono.if_want (Mono.want_at (c := false) rfl rfl (Mono.dep_at hdu (i := 10) (d := 34) rfl rfl rfl) rfl) ?_
      have z36 : a.eval (.tmp 36) = .int .i64 1 := Mono.dep_at hdu (i := 12) (d := 36) rfl rfl rfl
      simp [Act.eval] at z36
      exact Mono.ok_val (.bool false) (by simp [execOp, z36, go_sem, q4]) rfl
    · intro a u hbu hsu hdu
      have q4 := (hat2.ext hbu).cell 4; simp [row] at q4
      refine Mono.if_want rfl ?_
      have z34 : a.eval (.tmp 34) = .bool false := Mono.dep_at hdu (i := 10) (d := 34) rfl rfl rfl
      simp [Act.eval] at z34
      have z37 : a.eval (.tmp 37) = .bool false := Mono.dep_at hdu (i := 13) (d := 37) rfl rfl rfl
      simp [Act.eval] at z37
      exact Mono.ok_val (.bool false) (by simp [execOp, z34, z37, go_sem, q4]) rfl
    · intro a u hbu hsu hdu
      have q4 := (hat2.ext hbu).cell 4; simp [row] at q4
      refine Mono.if_want rfl ?_
      exact Mono.ok_move (.tmp 38) rfl (Mono.dep_at hdu (i := 14) (d := 38) rfl rfl rfl)
    · intro a u hbu hsu hdu
      have q4 := (hat2.ext hbu).cell 4; simp [row] at q4
      refine Mono.if_want (Mono.want_at (c := false) rfl rfl (Mono.dep_at hdu (i := 15) (d := 39) rfl rfl rfl) rfl) ?_
      exact Mono.ok_move (.tmp 6) rfl (hsu 6 (by decide))
    · intro a u hbu hsu hdu
      have q4 := (hat2.ext hbu).cell 4; simp [row] at q4
      refine Mono.if_want (Mono.want_at (c := false) rfl rfl (Mono.dep_at hdu (i := 15) (d := 39) rfl rfl rfl) rfl) ?_
      have z40 : a.eval (.tmp 40) = .slice (some ⟨gF, 0, none⟩) 1 1 := Mono.dep_at hdu (i := 16) (d := 40) rfl rfl rfl
      simp [Act.eval] at z40
      exact Mono.ok_val (.pointer (some ⟨gF, 0, none⟩)) (by simp [execOp, z40, go_sem, q4]) rfl
    · intro a u hbu hsu hdu
      have q4 := (hat2.ext hbu).cell 4; simp [row] at q4
      refine Mono.if_want (Mono.want_at (c := false) rfl rfl (Mono.dep_at hdu (i := 15) (d := 39) rfl rfl rfl) rfl) ?_
      have z41 : a.eval (.tmp 41) = .pointer (some ⟨gF, 0, none⟩) := Mono.dep_at hdu (i := 17) (d := 41) rfl rfl rfl
      simp [Act.eval] at z41
      exact Mono.ok_val (.pointer (some ⟨gF, 4, none⟩)) (by simp [execOp, z41, go_sem, q4]) rfl
    · intro a u hbu hsu hdu
      have q4 := (hat2.ext hbu).cell 4; simp [row] at q4
      refine Mono.if_want (Mono.want_at (c := false) rfl rfl (Mono.dep_at hdu (i := 15) (d := 39) rfl rfl rfl) rfl) ?_
      have z42 : a.eval (.tmp 42) = .pointer (some ⟨gF, 4, none⟩) := Mono.dep_at hdu (i := 18) (d := 42) rfl rfl rfl
      simp [Act.eval] at z42
      exact Mono.ok_val (.slice pd n cd) (by simp [execOp, z42, go_sem, q4]) rfl
    · intro a u hbu hsu hdu
      have q4 := (hat2.ext hbu).cell 4; simp [row] at q4
      refine Mono.if_want (Mono.want_at (c := false) rfl rfl (Mono.dep_at hdu (i := 15) (d := 39) rfl rfl rfl) rfl) ?_
      have z43 : a.eval (.tmp 43) = .slice pd n cd := Mono.dep_at hdu (i := 19) (d := 43) rfl rfl rfl
      exact Mono.ok_conv 32 9 (.tmp 43) rfl _ (by rw [z43]; exact Avp.string23 (HD2.out.below hbu)) rfl
    · intro a u hbu hsu hdu
      have q4 := (hat2.ext hbu).cell 4; simp [row] at q4
      refine Mono.if_want (Mono.want_at (c := false) rfl rfl (Mono.dep_at hdu (i := 15) (d := 39) rfl rfl rfl) rfl) ?_
      exact Mono.ok_move (.tmp 0) rfl (hsu 0 (by decide))
    · intro a u hbu hsu hdu
      have q4 := (hat2.ext hbu).cell 4; simp [row] at q4
      refine Mono.if_want (Mono.want_at (c := false) rfl rfl (Mono.dep_at hdu (i := 15) (d := 39) rfl rfl rfl) rfl) ?_
      have z45 : a.eval (.tmp 45) = .slice p n c := Mono.dep_at hdu (i := 21) (d := 45) rfl rfl rfl
      exact Mono.ok_conv 32 9 (.tmp 45) rfl _ (by rw [z45]; exact Avp.string23 (HRN.out.below (hbw2.trans (hbu.mono hbw2.size)))) rfl
    · intro a u hbu hsu hdu
      have q4 := (hat2.ext hbu).cell 4; simp [row] at q4
      refine Mono.if_want (Mono.want_at (c := false) rfl rfl (Mono.dep_at hdu (i := 15) (d := 39) rfl rfl rfl) rfl) ?_
      have z44 : a.eval (.tmp 44) = .string (strOfNums xs) := Mono.dep_at hdu (i := 20) (d := 44) rfl rfl rfl
      simp [Act.eval] at z44
      have z46 : a.eval (.tmp 46) = .string (strOfNums xs) := Mono.dep_at hdu (i := 22) (d := 46) rfl rfl rfl
      simp [Act.eval] at z46
      exact Mono.ok_val (.bool false) (by simp [execOp, z44, z46, go_sem, q4]) rfl
    · intro a u hbu hsu hdu
      have q4 := (hat2.ext hbu).cell 4; simp [row] at q4
      refine Mono.if_want rfl ?_
      have z39 : a.eval (.tmp 39) = .bool false := Mono.dep_at hdu (i := 15) (d := 39) rfl rfl rfl
      simp [Act.eval] at z39
      have z47 : a.eval (.tmp 47) = .bool false := Mono.dep_at hdu (i := 23) (d := 47) rfl rfl rfl
      simp [Act.eval] at z47
      exact Mono.ok_val (.bool false) (by simp [execOp, z39, z47, go_sem, q4]) rfl
  intro u hu
  simp only [Mono.Fin]
  rintro _ rfl _ rfl _ rfl _ rfl _ rfl _ rfl _ rfl _ rfl _ rfl _ rfl _ rfl _ rfl _ rfl _ rfl _ rfl _ rfl _ rfl _ rfl _ rfl _ rfl _ rfl _ rfl _ rfl _ rfl _ rfl
  have hbA := hb2.trans (hu.mono hb2.size)
  have hatF := hat2.ext hu
  have hrowF : Row .u8 5 u1.heap.size u (.slice pd n cd) xs := by have := hrow.below hu; rwa [HN.out] at this
  clear hat2 hat3 hrow hbw2 HD2 hb2 hu
  obtain ⟨B1, hB1⟩ : ∃ q, u1.heap.size = q := ⟨_, rfl⟩
  have HB1 := Lib.hid hB1
  rw [hB1] at hrowF hgF hbA
  simp [Act.put]
  go_wp2_with fail
  go_loopw [8] (fun i wr => ∃ (k : Nat) (ys : List Int), i = .int .i64 k ∧ k ≤ n ∧ Hid (ys.length = n) ∧ Below B1 u1 wr ∧ At wr gF 35 (row (aK xs) (.slice pd n cd)).toArray ∧ Hid (Row .u8 5 B1 wr (.slice pd ys.length cd) ys)) (fun i _ => n - (intOf i).toNat)
  case atStart => exact ⟨0, xs, rfl, by omega, HN, hbA, hatF, Lib.hid (by rw [HN.out]; exact hrowF)⟩
  case round =>
    clear hrowF hatF hbA
    obtain ⟨k, ys, rfl, hk, HY, hbl, hatw, HW⟩ := hrel
    have c4w := hatw.cell 4
    simp [row] at c4w
    by_cases hlt : k < n
    · obtain ⟨gd, hpd, _, hgd1, hgdl⟩ := HW.out.form (by rw [HY.out]; omega)
      subst hpd
      have hnk : ¬ n ≤ k := by omega
      have hcell := (HW.out.cell k (by rw [HY.out]; exact hlt)).1
      go_wp2_with fail
      refine Mono.wp_region_monoT 14 [some 58, some 59, some 60, some 61, some 62, some 63, some 64, some 65, some 66, some 67, some 68, some 69, some 70, some 71] [Mono.isV (.slice (some ⟨gF, 0, none⟩) 1 1), Mono.isV (.pointer (some ⟨gF, 0, none⟩)), Mono.isV (.pointer (some ⟨gF, 4, none⟩)), Mono.isV (.slice (some ⟨gd, 0, none⟩) n cd), Mono.isV (.int .i64 k), Mono.isV (.slice (some ⟨gF, 0, none⟩) 1 1), Mono.isV (.pointer (some ⟨gF, 0, none⟩)), Mono.isV (.pointer (some ⟨gF, 4, none⟩)), Mono.isV (.slice (some ⟨gd, 0, none⟩) n cd), Mono.isV (.int .i64 k), Mono.isV (.pointer (some ⟨gd, k, none⟩)), Mono.isV (.int .u8 (ys.getD k 0)), Mono.isV (.int .u8 (IntKind.u8.wrap (ys.getD k 0 + 1))), Mono.isV (.pointer (some ⟨gd, k, none⟩))] (by kernel_rfl) (by kernel_rfl) ?_ ?_
      · simp only [Mono.OpGoals, List.take_succ_cons, List.take_zero, and_true]
        refine ⟨?_, ?_, ?_, ?_, ?_, ?_, ?_, ?_, ?_, ?_, ?_, ?_, ?_, ?_⟩
        · intro a u hbu hsu hdu
          have q4 := (hatw.ext hbu).cell 4; simp [row] at q4; have qk := (hbu.cell (p := ⟨gd, k, none⟩) hgdl).trans hcell
          refine Mono.if_want rfl ?_
          exact Mono.ok_move (.tmp 6) rfl (hsu 6 (by decide))
        · intro a u hbu hsu hdu
          have q4 := (hatw.ext hbu).cell 4; simp [row] at q4; have qk := (hbu.cell (p := ⟨gd, k, none⟩) hgdl).trans hcell
          refine Mono.if_want rfl ?_
          have z58 : a.eval (.tmp 58) = .slice (some ⟨gF, 0, none⟩) 1 1 := Mono.dep_at hdu (i := 0) (d := 58) rfl rfl rfl
          simp [Act.eval] at z58
          exact Mono.ok_val (.pointer (some ⟨gF, 0, none⟩)) (by simp [execOp, z58, go_sem, q4, qk, hnk]) rfl
        · intro a u hbu hsu hdu
          have q4 := (hatw.ext hbu).cell 4; simp [row] at q4; have qk := (hbu.cell (p := ⟨gd, k, none⟩) hgdl).trans hcell
          refine Mono.if_want rfl ?_
          have z59 : a.eval (.tmp 59) = .pointer (some ⟨gF, 0, none⟩) := Mono.dep_at hdu (i := 1) (d := 59) rfl rfl rfl
          simp [Act.eval] at z59
          exact Mono.ok_val (.pointer (some ⟨gF, 4, none⟩)) (by simp [execOp, z59, go_sem, q4, qk, hnk]) rfl
        · intro a u hbu hsu hdu
          have q4 := (hatw.ext hbu).cell 4; simp [row] at q4; have qk := (hbu.cell (p := ⟨gd, k, none⟩) hgdl).trans hcell
          refine Mono.if_want rfl ?_
          have z60 : a.eval (.tmp 60) = .pointer (some ⟨gF, 4, none⟩) := Mono.dep_at hdu (i := 2) (d := 60) rfl rfl rfl
          simp [Act.eval] at z60
          exact Mono.ok_val (.slice (some ⟨gd, 0, none⟩) n cd) (by simp [execOp, z60, go_sem, q4, qk, hnk]) rfl
        · intro a u hbu hsu hdu
          have q4 := (hatw.ext hbu).cell 4; simp [row] at q4; have qk := (hbu.cell (p := ⟨gd, k, none⟩) hgdl).trans hcell
          refine Mono.if_want rfl ?_
          exact Mono.ok_move (.tmp 8) rfl (hsu 8 (by decide))
        · intro a u hbu hsu hdu
          have q4 := (hatw.ext hbu).cell 4; simp [row] at q4; have qk := (hbu.cell (p := ⟨gd, k, none⟩) hgdl).trans hcell
          refine Mono.if_want rfl ?_
          exact Mono.ok_move (.tmp 6) rfl (hsu 6 (by decide))
        · intro a u hbu hsu hdu
          have q4 := (hatw.ext hbu).cell 4; simp [row] at q4; have qk := (hbu.cell (p := ⟨gd, k, none⟩) hgdl).trans hcell
          refine Mono.if_want rfl ?_
          have z63 : a.eval (.tmp 63) = .slice (some ⟨gF, 0, none⟩) 1 1 := Mono.dep_at hdu (i := 5) (d := 63) rfl rfl rfl
          simp [Act.eval] at z63
          exact Mono.ok_val (.pointer (some ⟨gF, 0, none⟩)) (by simp [execOp, z63, go_sem, q4, qk, hnk]) rfl
        · intro a u hbu hsu hdu
          have q4 := (hatw.ext hbu).cell 4; simp [row] at q4; have qk := (hbu.cell (p := ⟨gd, k, none⟩) hgdl).trans hcell
          refine Mono.if_want rfl ?_
          have z64 : a.eval (.tmp 64) = .pointer (some ⟨gF, 0, none⟩) := Mono.dep_at hdu (i := 6) (d := 64) rfl rfl rfl
          simp [Act.eval] at z64
          exact Mono.ok_val (.pointer (some ⟨gF, 4, none⟩)) (by simp [execOp, z64, go_sem, q4, qk, hnk]) rfl
        · intro a u hbu hsu hdu
          have q4 := (hatw.ext hbu).cell 4; simp [row] at q4; have qk := (hbu.cell (p := ⟨gd, k, none⟩) hgdl).trans hcell
          refine Mono.if_want rfl ?_
          have z65 : a.eval (.tmp 65) = .pointer (some ⟨gF, 4, none⟩) := Mono.dep_at hdu (i := 7) (d := 65) rfl rfl rfl
          simp [Act.eval] at z65
          exact Mono.ok_val (.slice (some ⟨gd, 0, none⟩) n cd) (by simp [execOp, z65, go_sem, q4, qk, hnk]) rfl
        · intro a u hbu hsu hdu
          have q4 := (hatw.ext hbu).cell 4; simp [row] at q4; have qk := (hbu.cell (p := ⟨gd, k, none⟩) hgdl).trans hcell
          refine Mono.if_want rfl ?_
          exact Mono.ok_move (.tmp 8) rfl (hsu 8 (by decide))
        · intro a u hbu hsu hdu
          have q4 := (hatw.ext hbu).cell 4; simp [row] at q4; have qk := (hbu.cell (p := ⟨gd, k, none⟩) hgdl).trans hcell
          refine Mono.if_want rfl ?_
          have z66 : a.eval (.tmp 66) = .slice (some ⟨gd, 0, none⟩) n cd := Mono.dep_at hdu (i := 8) (d := 66) rfl rfl rfl
          simp [Act.eval] at z66
          have z67 : a.eval (.tmp 67) = .int .i64 k := Mono.dep_at hdu (i := 9) (d := 67) rfl rfl rfl
          simp [Act.eval] at z67
          exact Mono.ok_val (.pointer (some ⟨gd, k, none⟩)) (by simp [execOp, z66, z67, go_sem, q4, qk, hnk]) rfl
        · intro a u hbu hsu hdu
          have q4 := (hatw.ext hbu).cell 4; simp [row] at q4; have qk := (hbu.cell (p := ⟨gd, k, none⟩) hgdl).trans hcell
          refine Mono.if_want rfl ?_
          have z68 : a.eval (.tmp 68) = .pointer (some ⟨gd, k, none⟩) := Mono.dep_at hdu (i := 10) (d := 68) rfl rfl rfl
          simp [Act.eval] at z68
          exact Mono.ok_val (.int .u8 (ys.getD k 0)) (by simp [execOp, z68, go_sem, q4, qk, hnk]) rfl
        · intro a u hbu hsu hdu
          have q4 := (hatw.ext hbu).cell 4; simp [row] at q4; have qk := (hbu.cell (p := ⟨gd, k, none⟩) hgdl).trans hcell
          refine Mono.if_want rfl ?_
          have z69 : a.eval (.tmp 69) = .int .u8 (ys.getD k 0) := Mono.dep_at hdu (i := 11) (d := 69) rfl rfl rfl
          simp [Act.eval] at z69
          exact Mono.ok_val (.int .u8 (IntKind.u8.wrap (ys.getD k 0 + 1))) (by simp [execOp, z69, go_sem, q4, qk, hnk]) rfl
        · intro a u hbu hsu hdu
          have q4 := (hatw.ext hbu).cell 4; simp [row] at q4; have qk := (hbu.cell (p := ⟨gd, k, none⟩) hgdl).trans hcell
          refine Mono.if_want rfl ?_
          have z61 : a.eval (.tmp 61) = .slice (some ⟨gd, 0, none⟩) n cd := Mono.dep_at hdu (i := 3) (d := 61) rfl rfl rfl
          simp [Act.eval] at z61
          have z62 : a.eval (.tmp 62) = .int .i64 k := Mono.dep_at hdu (i := 4) (d := 62) rfl rfl rfl
          simp [Act.eval] at z62
          exact Mono.ok_val (.pointer (some ⟨gd, k, none⟩)) (by simp [execOp, z61, z62, go_sem, q4, qk, hnk]) rfl
      intro u hu
      simp only [Mono.Fin]
      rintro _ rfl _ rfl _ rfl _ rfl _ rfl _ rfl _ rfl _ rfl _ rfl _ rfl _ rfl _ rfl _ rfl _ rfl
      have hne : gF ≠ gd := fun e => by
        have h1 := HW.out.2
        rcases h1 with ⟨h1, _⟩ | ⟨g', cap, cur, e1, _, e2, _⟩
        · cases h1
        · cases e1
          rw [e] at hatw
          have := hatw.symm.trans e2
          simp at this
      have hat4 := hatw.ext hu
      have hrow4 : Row .u8 5 B1 u (.slice (some ⟨gd, 0, none⟩) n cd) ys := by have := HW.out.below hu; rwa [HY.out] at this
      have hbl4 := hbl.trans (hu.mono (by have := hbl.size; have := HB1.out; omega))
      simp [Act.put]
      have HRW := Lib.hid hrow4
      obtain ⟨z, hz⟩ : ∃ z, IntKind.u8.wrap (ys.getD k 0 + 1) = z := ⟨_, rfl⟩
      have HYS := Lib.hid (show n = ys.length from HY.out.symm)
      have hky := Lib.hid (show k < ys.length by rw [HY.out]; exact hlt)
      have T4 := hbl4.size
      clear hatw c4w hcell hrow4 hbl HW HY hnk
      go_wp2_with (first
        | (refine wpl_storeB rfl 5 (.tmp 71) (.tmp 70) rfl rfl .u8 B1 5 gd n cd k ys _ rfl rfl HRW.out HYS.out hky.out (by kernel_rfl) ?_; go_must (intro u5 hrow5 hg5; obtain ⟨zs, hzs⟩ : ∃ zs, ys.set k (IntKind.u8.wrap (ys[k]?.getD 0 + 1)) = zs := ⟨_, rfl⟩; have HZL := Lib.hid (show zs.length = n by rw [← hzs, List.length_set]; exact HYS.out.symm); rw [hzs] at hrow5; clear hzs; have hbl5 := below_grown hbl4 hg5 (by have := hbl4.size; have := HB1.out; omega) hgd1; have hat5 := hat4.grown hg5 hne; clear hat4 hg5)))
      go_roundw
      case rel => exact ⟨k + 1, zs, by go_num, by omega, HZL, hbl5, hat5, Lib.hid (by rw [HZL.out]; exact hrow5)⟩
      case measure => simp [intOf]; omega
    · obtain rfl : k = n := by omega
      clear HW HY hatw
      have hbL1 : Below u1.heap.size u1 wr := by rw [HB1.out]; exact hbl
      have hbl2 := hb5.trans (hbL1.mono hb5.size)
      have PB2 := Lib.hid (fun (v : Value) y (hy : Below u1.heap.size u1 y) (hv : ReadsR y v [ruleB]) => PB.out v (.slice (some ⟨gL, 0, none⟩) 1 1) y ((readsL_one hatL HV5'.out).below hy) hv)
      go_wp2_with (first
        | ((with_reducible refine wpl_buildS rfl 22 1 #[(0, .tmp 73)] rfl #[(0, .agg (rowR ruleB))] ?_ 37 (rowR ruleB) (fun _ => buildRule _ _) ?_); (simp [Act.eval, rowR, ruleB]); go_must (intro u6 hat6 hb6 hs6; clear hs6; have hbL6 := hbL1.trans (hb6.mono hbL1.size); have hbw6 := hbl2.trans (hb6.mono hbl2.size)))
        | (go_at_call 10; go_must (refine (PB2.out _ _ hbL6 (reads_one_rule hat6)).mono ?_; rintro e u7 ⟨v7, rfl, hfl7, hb7⟩; have e7 : v7 = .slice none 0 0 := hfl7; subst e7; have hbL := hbL6.trans (hb7.mono hbL6.size); have hbw5 := hbw6.trans (hb7.mono hbw6.size); clear hfl7 hat6 hb6 hbL6 hbw6 hb7)))
      refine Mono.wp_region_mono [some 80, some 81, some 82, some 83, some 84, some 85, some 86, some 87, some 88, some 89, some 90, some 91, some 2] [Mono.isV (.slice (some ⟨gL, 0, none⟩) 1 1), Mono.isV (.pointer (some ⟨gL, 0, none⟩)), Mono.isV (.pointer (some ⟨gL, 4, none⟩)), Mono.isV (.slice p4 k c4), Mono.isV (.string (strOfNums xs)), Mono.isV (.slice p k c), Mono.isV (.string (strOfNums xs)), Mono.isV (.bool true), Mono.isV (.bool true), Mono.isV (.int .i64 2), Mono.isV (.bool true), Mono.isV (.bool true), Mono.isV (.bool true)] (by kernel_rfl) (by kernel_rfl) ?_ ?_
      · simp only [Mono.OpGoals, and_true]
        refine ⟨?_, ?_, ?_, ?_, ?_, ?_, ?_, ?_, ?_, ?_, ?_, ?_, ?_⟩
        · intro a u hbu hsu hdu
          have q4 := (hbL.trans (hbu.mono hbL.size)); have q5 := (hatL.ext q4).cell 4; simp [row] at q5
          refine Mono.if_want rfl ?_
          exact Mono.ok_move (.tmp 4) rfl (hsu 4 (by decide))
        · intro a u hbu hsu hdu
          have q4 := (hbL.trans (hbu.mono hbL.size)); have q5 := (hatL.ext q4).cell 4; simp [row] at q5
          refine Mono.if_want rfl ?_
          have z80 : a.eval (.tmp 80) = .slice (some ⟨gL, 0, none⟩) 1 1 := Mono.dep_at hdu (i := 0) (d := 80) rfl rfl rfl
          simp [Act.eval] at z80
          exact Mono.ok_val (.pointer (some ⟨gL, 0, none⟩)) (by simp [execOp, z80, go_sem, q5]) rfl
        · intro a u hbu hsu hdu
          have q4 := (hbL.trans (hbu.mono hbL.size)); have q5 := (hatL.ext q4).cell 4; simp [row] at q5
          refine Mono.if_want rfl ?_
          have z81 : a.eval (.tmp 81) = .pointer (some ⟨gL, 0, none⟩) := Mono.dep_at hdu (i := 1) (d := 81) rfl rfl rfl
          simp [Act.eval] at z81
          exact Mono.ok_val (.pointer (some ⟨gL, 4, none⟩)) (by simp [execOp, z81, go_sem, q5]) rfl
        · intro a u hbu hsu hdu
          have q4 := (hbL.trans (hbu.mono hbL.size)); have q5 := (hatL.ext q4).cell 4; simp [row] at q5
          refine Mono.if_want rfl ?_
          have z82 : a.eval (.tmp 82) = .pointer (some ⟨gL, 4, none⟩) := Mono.dep_at hdu (i := 2) (d := 82) rfl rfl rfl
          simp [Act.eval] at z82
          exact Mono.ok_val (.slice p4 k c4) (by simp [execOp, z82, go_sem, q5]) rfl
        · intro a u hbu hsu hdu
          have q4 := (hbL.trans (hbu.mono hbL.size)); have q5 := (hatL.ext q4).cell 4; simp [row] at q5
          refine Mono.if_want rfl ?_
          have z83 : a.eval (.tmp 83) = .slice p4 k c4 := Mono.dep_at hdu (i := 3) (d := 83) rfl rfl rfl
          exact Mono.ok_conv 32 9 (.tmp 83) rfl _ (by rw [z83]; exact Avp.string23 (HV5.out.below (hbL.trans (hbu.mono hbL.size)))) rfl
        · intro a u hbu hsu hdu
          have q4 := (hbL.trans (hbu.mono hbL.size)); have q5 := (hatL.ext q4).cell 4; simp [row] at q5
          refine Mono.if_want rfl ?_
          exact Mono.ok_move (.tmp 0) rfl (hsu 0 (by decide))
        · intro a u hbu hsu hdu
          have q4 := (hbL.trans (hbu.mono hbL.size)); have q5 := (hatL.ext q4).cell 4; simp [row] at q5
          refine Mono.if_want rfl ?_
          have z85 : a.eval (.tmp 85) = .slice p k c := Mono.dep_at hdu (i := 5) (d := 85) rfl rfl rfl
          exact Mono.ok_conv 32 9 (.tmp 85) rfl _ (by rw [z85]; exact Avp.string23 (HRN.out.below (hbw5.trans (hbu.mono hbw5.size)))) rfl
        · intro a u hbu hsu hdu
          have q4 := (hbL.trans (hbu.mono hbL.size)); have q5 := (hatL.ext q4).cell 4; simp [row] at q5
          refine Mono.if_want rfl ?_
          have z84 : a.eval (.tmp 84) = .string (strOfNums xs) := Mono.dep_at hdu (i := 4) (d := 84) rfl rfl rfl
          simp [Act.eval] at z84
          have z86 : a.eval (.tmp 86) = .string (strOfNums xs) := Mono.dep_at hdu (i := 6) (d := 86) rfl rfl rfl
          simp [Act.eval] at z86
          exact Mono.ok_val (.bool true) (by simp [execOp, z84, z86, go_sem, q5]) rfl
        · intro a u hbu hsu hdu
          have q4 := (hbL.trans (hbu.mono hbL.size)); have q5 := (hatL.ext q4).cell 4; simp [row] at q5
          refine Mono.if_want rfl ?_
          exact Mono.ok_move (.tmp 87) rfl (Mono.dep_at hdu (i := 7) (d := 87) rfl rfl rfl)
        · intro a u hbu hsu hdu
          have q4 := (hbL.trans (hbu.mono hbL.size)); have q5 := (hatL.ext q4).cell 4; simp [row] at q5
          refine Mono.if_want (Mono.want_at (c := true) rfl rfl (Mono.dep_at hdu (i := 8) (d := 88) rfl rfl rfl) rfl) ?_
          exact Mono.ok_move (.tmp 11) rfl (hsu 11 (by decide))
        · intro a u hbu hsu hdu
          have q4 := (hbL.trans (hbu.mono hbL.size)); have q5 := (hatL.ext q4).cell 4; simp [row] at q5
          refine Mono.if_want (Mono.want_at (c := true) rfl rfl (Mono.dep_at hdu (i := 8) (d := 88) rfl rfl rfl) rfl) ?_
          have z89 : a.eval (.tmp 89) = .int .i64 2 := Mono.dep_at hdu (i := 9) (d := 89) rfl rfl rfl
          simp [Act.eval] at z89
          exact Mono.ok_val (.bool true) (by simp [execOp, z89, go_sem, q5]) rfl
        · intro a u hbu hsu hdu
          have q4 := (hbL.trans (hbu.mono hbL.size)); have q5 := (hatL.ext q4).cell 4; simp [row] at q5
          refine Mono.if_want rfl ?_
          have z88 : a.eval (.tmp 88) = .bool true := Mono.dep_at hdu (i := 8) (d := 88) rfl rfl rfl
          simp [Act.eval] at z88
          have z90 : a.eval (.tmp 90) = .bool true := Mono.dep_at hdu (i := 10) (d := 90) rfl rfl rfl
          simp [Act.eval] at z90
          exact Mono.ok_val (.bool true) (by simp [execOp, z88, z90, go_sem, q5]) rfl
        · intro a u hbu hsu hdu
          have q4 := (hbL.trans (hbu.mono hbL.size)); have q5 := (hatL.ext q4).cell 4; simp [row] at q5
          refine Mono.if_want rfl ?_
          exact Mono.ok_assign (.tmp 91) rfl (Mono.dep_at hdu (i := 11) (d := 91) rfl rfl rfl)
      intro u hu
      simp only [Mono.Fin]
      rintro _ rfl _ rfl _ rfl _ rfl _ rfl _ rfl _ rfl _ rfl _ rfl _ rfl _ rfl _ rfl _ rfl
      have hfin := hbw5.trans (hu.mono hbw5.size)
      simp [Act.put]
      go_wp2_with fail
      go_ret
      exact ⟨rfl, hfin⟩
end Go.Proofs.YtjfmahodbdianaaDoor.Dict
