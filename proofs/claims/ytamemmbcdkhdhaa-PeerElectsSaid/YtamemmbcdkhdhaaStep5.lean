/-
  The table of a peer's steps; the inner steps of peer by it; slices.Clone; peer.Step.
-/
import Derived.Test.YtamemmbcdkhdhaaStep2
import Derived.Test.YtamemmbcdkhdhaaStep3
import Derived.Test.YtamemmbcdkhdhaaStep4
import Derived.Test.YtamemmbcdkhdhaaPrps
import Derived.Lib.SliceRun
namespace Go.Proofs.Ytamemmbcdkhdhaa.Peer
open Go.RowKit Mem Cells
set_option linter.unusedVariables false
set_option linter.unusedSimpArgs false
attribute [local simp] Mono.DepFacts Mono.want Mono.isV Mono.Fin Act.eval Act.put Region.binds

/-- The table: state, event, who wins (0: whoever), the next state, what is done. -/
def rows : List (Int × Int × Int × Int × List Int) := [
  (0, 1, 0, 1, [1]),
  (0, 2, 0, 6, [3, 4]),
  (1, 3, 0, 2, [2]),
  (1, 4, 0, 0, [11]),
  (1, 5, 0, 0, [11]),
  (1, 2, 0, 3, [3]),
  (2, 6, 0, 5, [10]),
  (2, 2, 1, 6, [3, 6, 4]),
  (2, 2, 2, 4, [3]),
  (2, 7, 0, 0, [11]),
  (2, 5, 0, 0, [6, 11]),
  (3, 3, 1, 6, [2, 6, 4]),
  (3, 3, 2, 4, [2]),
  (3, 4, 0, 6, [4]),
  (3, 8, 0, 1, [7]),
  (3, 2, 0, 3, [5]),
  (3, 5, 0, 0, [6, 7, 11]),
  (4, 7, 0, 6, [4]),
  (4, 6, 0, 5, [7, 10]),
  (4, 8, 0, 2, [7]),
  (4, 2, 0, 4, [5]),
  (4, 5, 0, 0, [6, 7, 11]),
  (5, 2, 0, 5, [5]),
  (6, 2, 0, 6, [5]),
  (5, 9, 0, 7, [8]),
  (6, 9, 0, 7, [8]),
  (5, 10, 0, 0, [9, 6, 11]),
  (6, 11, 0, 0, [9, 7, 11]),
  (5, 7, 0, 0, [11]),
  (6, 8, 0, 0, [11]),
  (7, 12, 0, 0, [6, 7, 11]),
  (7, 5, 0, 0, [6, 7, 11]),
  (7, 7, 0, 0, [11]),
  (7, 8, 0, 0, [11]),
  (7, 2, 0, 7, [5])]
def hit (s ev : Int) (win : Bool) (r : Int × Int × Int × Int × List Int) : Bool := r.1 == s && (r.2.1 == ev && (r.2.2.1 == 0 || (r.2.2.1 == 1) == win))
def stepF (s ev : Int) (win : Bool) : Option (Int × List Int) := (rows.find? (hit s ev win)).map fun r => (r.2.2.2.1, r.2.2.2.2)

theorem ev12 {ev : Int} (h : 1 ≤ ev ∧ ev ≤ 12) : ev = 1 ∨ ev = 2 ∨ ev = 3 ∨ ev = 4 ∨ ev = 5 ∨ ev = 6 ∨ ev = 7 ∨ ev = 8 ∨ ev = 9 ∨ ev = 10 ∨ ev = 11 ∨ ev = 12 := by omega
theorem opening (s ev : Int) (win : Bool) (w : World) (hs : 0 ≤ s ∧ s ≤ 2) (he : 1 ≤ ev ∧ ev ≤ 12) : Calls Try.prog 17 #[.int .i64 s, .int .i64 ev, .bool win] w (Known w (stepF s ev win)) := by
  have hs' : s = 0 ∨ s = 1 ∨ s = 2 := by omega
  rcases hs' with rfl | rfl | rfl
  · rcases ev12 he with rfl | rfl | rfl | rfl | rfl | rfl | rfl | rfl | rfl | rfl | rfl | rfl
    · cases win <;> exact f17_0_1 _ w
    · cases win <;> exact f17_0_2 _ w
    · cases win <;> exact f17_0_3 _ w
    · cases win <;> exact f17_0_4 _ w
    · cases win <;> exact f17_0_5 _ w
    · cases win <;> exact f17_0_6 _ w
    · cases win <;> exact f17_0_7 _ w
    · cases win <;> exact f17_0_8 _ w
    · cases win <;> exact f17_0_9 _ w
    · cases win <;> exact f17_0_10 _ w
    · cases win <;> exact f17_0_11 _ w
    · cases win <;> exact f17_0_12 _ w
  · rcases ev12 he with rfl | rfl | rfl | rfl | rfl | rfl | rfl | rfl | rfl | rfl | rfl | rfl
    · cases win <;> exact f17_1_1 _ w
    · cases win <;> exact f17_1_2 _ w
    · cases win <;> exact f17_1_3 _ w
    · cases win <;> exact f17_1_4 _ w
    · cases win <;> exact f17_1_5 _ w
    · cases win <;> exact f17_1_6 _ w
    · cases win <;> exact f17_1_7 _ w
    · cases win <;> exact f17_1_8 _ w
    · cases win <;> exact f17_1_9 _ w
    · cases win <;> exact f17_1_10 _ w
    · cases win <;> exact f17_1_11 _ w
    · cases win <;> exact f17_1_12 _ w
  · rcases ev12 he with rfl | rfl | rfl | rfl | rfl | rfl | rfl | rfl | rfl | rfl | rfl | rfl
    · cases win <;> exact f17_2_1 _ w
    · cases win
      · exact f17_2_2f w
      · exact f17_2_2t w
    · cases win <;> exact f17_2_3 _ w
    · cases win <;> exact f17_2_4 _ w
    · cases win <;> exact f17_2_5 _ w
    · cases win <;> exact f17_2_6 _ w
    · cases win <;> exact f17_2_7 _ w
    · cases win <;> exact f17_2_8 _ w
    · cases win <;> exact f17_2_9 _ w
    · cases win <;> exact f17_2_10 _ w
    · cases win <;> exact f17_2_11 _ w
    · cases win <;> exact f17_2_12 _ w
theorem electing (s ev : Int) (win : Bool) (w : World) (hs : 3 ≤ s ∧ s ≤ 4) (he : 1 ≤ ev ∧ ev ≤ 12) : Calls Try.prog 15 #[.int .i64 s, .int .i64 ev, .bool win] w (Known w (stepF s ev win)) := by
  have hs' : s = 3 ∨ s = 4 := by omega
  rcases hs' with rfl | rfl
  · rcases ev12 he with rfl | rfl | rfl | rfl | rfl | rfl | rfl | rfl | rfl | rfl | rfl | rfl
    · cases win <;> exact f15_3_1 _ w
    · cases win <;> exact f15_3_2 _ w
    · cases win
      · exact f15_3_3f w
      · exact f15_3_3t w
    · cases win <;> exact f15_3_4 _ w
    · cases win <;> exact f15_3_5 _ w
    · cases win <;> exact f15_3_6 _ w
    · cases win <;> exact f15_3_7 _ w
    · cases win <;> exact f15_3_8 _ w
    · cases win <;> exact f15_3_9 _ w
    · cases win <;> exact f15_3_10 _ w
    · cases win <;> exact f15_3_11 _ w
    · cases win <;> exact f15_3_12 _ w
  · rcases ev12 he with rfl | rfl | rfl | rfl | rfl | rfl | rfl | rfl | rfl | rfl | rfl | rfl
    · cases win <;> exact f15_4_1 _ w
    · cases win <;> exact f15_4_2 _ w
    · cases win <;> exact f15_4_3 _ w
    · cases win <;> exact f15_4_4 _ w
    · cases win <;> exact f15_4_5 _ w
    · cases win <;> exact f15_4_6 _ w
    · cases win <;> exact f15_4_7 _ w
    · cases win <;> exact f15_4_8 _ w
    · cases win <;> exact f15_4_9 _ w
    · cases win <;> exact f15_4_10 _ w
    · cases win <;> exact f15_4_11 _ w
    · cases win <;> exact f15_4_12 _ w
theorem open_ (s ev : Int) (win : Bool) (w : World) (hs : 5 ≤ s ∧ s ≤ 7) (he : 1 ≤ ev ∧ ev ≤ 12) : Calls Try.prog 16 #[.int .i64 s, .int .i64 ev] w (Known w (stepF s ev win)) := by
  have hs' : s = 5 ∨ s = 6 ∨ s = 7 := by omega
  rcases hs' with rfl | rfl | rfl
  · rcases ev12 he with rfl | rfl | rfl | rfl | rfl | rfl | rfl | rfl | rfl | rfl | rfl | rfl
    · cases win <;> exact f16_5_1 w
    · cases win <;> exact f16_5_2 w
    · cases win <;> exact f16_5_3 w
    · cases win <;> exact f16_5_4 w
    · cases win <;> exact f16_5_5 w
    · cases win <;> exact f16_5_6 w
    · cases win <;> exact f16_5_7 w
    · cases win <;> exact f16_5_8 w
    · cases win <;> exact f16_5_9 w
    · cases win <;> exact f16_5_10 w
    · cases win <;> exact f16_5_11 w
    · cases win <;> exact f16_5_12 w
  · rcases ev12 he with rfl | rfl | rfl | rfl | rfl | rfl | rfl | rfl | rfl | rfl | rfl | rfl
    · cases win <;> exact f16_6_1 w
    · cases win <;> exact f16_6_2 w
    · cases win <;> exact f16_6_3 w
    · cases win <;> exact f16_6_4 w
    · cases win <;> exact f16_6_5 w
    · cases win <;> exact f16_6_6 w
    · cases win <;> exact f16_6_7 w
    · cases win <;> exact f16_6_8 w
    · cases win <;> exact f16_6_9 w
    · cases win <;> exact f16_6_10 w
    · cases win <;> exact f16_6_11 w
    · cases win <;> exact f16_6_12 w
  · rcases ev12 he with rfl | rfl | rfl | rfl | rfl | rfl | rfl | rfl | rfl | rfl | rfl | rfl
    · cases win <;> exact f16_7_1 w
    · cases win <;> exact f16_7_2 w
    · cases win <;> exact f16_7_3 w
    · cases win <;> exact f16_7_4 w
    · cases win <;> exact f16_7_5 w
    · cases win <;> exact f16_7_6 w
    · cases win <;> exact f16_7_7 w
    · cases win <;> exact f16_7_8 w
    · cases win <;> exact f16_7_9 w
    · cases win <;> exact f16_7_10 w
    · cases win <;> exact f16_7_11 w
    · cases win <;> exact f16_7_12 w

theorem info3 : (Try.prog.info? 3).map (fun i => (i.zero, i.size, i.bytes)) = some (some (.int .i64 0), 1, 8) := by kernel_rfl
/-- A row of the call's own. -/
def rowP (k : IntKind) (e : TypeId) (B : Nat) (xs : List Int) : Mono.Prp := ⟨fun v w => Row k e B w v xs, fun _ _ _ h hb => Row.below h hb⟩
theorem clone (v : Value) (xs : List Int) (w : World) (hr : Reads .i64 w v xs) (hl : xs.length ≤ 1000) :
    Calls Try.prog 18 #[v] w fun e w' => ∃ v', e = .returned v' ∧ Row .i64 3 w.heap.size w' v' xs ∧ Below w.heap.size w w' := by
  obtain ⟨i0, hi, hz0, hz1, hz2⟩ := info_parts info3
  have hr' := hr
  obtain ⟨p, c, rfl, h1, h2, h3, h4⟩ := hr
  cases p with
  | none =>
    have hc := h3 rfl
    have hx : xs = [] := List.eq_nil_of_length_eq_zero (by omega)
    subst hx hc
    clear h4 h3
    have q := Lib.run_eql_slice_nil (P := Try.prog) w 22 3 none 0 0 0 0 Try.underlying22
    go_enter Try.func18, Try.ntmps18
    go_wp2
    go_ret
    exact ⟨_, rfl, ⟨rfl, .inl ⟨rfl, rfl⟩⟩, Below.refl _ _⟩
  | some ad =>
    have bn := (Below.refl w.heap.size w).alloc (Nat.le_refl _) (.cells #[] 3)
    have rn := Row.alloc_nil .i64 3 w (Nat.le_refl w.heap.size)
    have rx := hr'.below ((Below.refl w.heap.size w).alloc (Nat.le_refl _) (.cells #[] 3))
    clear h4 h3 hr'
    have q := Lib.run_eql_slice_nil (P := Try.prog) w 22 3 (some ad) xs.length c 0 0 Try.underlying22
    go_enter Try.func18, Try.ntmps18
    go_wp2_with (at_builtin; refine wpl_append rfl _ _ 22 rfl .i64 w.heap.size 3 8 i0 (.int .i64 0) Try.underlying22 hi hz0 hz1 hz2 rfl _ _ _ _ rfl rfl rn rx ?_ ?_ ?_ ?_)
    · unfold maxLen; simp; omega
    · simp; omega
    · exact bn.size
    · intro v6 w6 o6 g6
      have b6 : Below w.heap.size w w6 := bn.grown g6 bn.size (fun q hq => (rn.lt q hq).1)
      clear g6
      go_wp2
      go_ret
      exact ⟨_, rfl, by simpa using o6, b6⟩

/-- A state and an event that may be. -/
def inR (s ev : Int) : Bool := decide ((0 ≤ s ∧ s ≤ 7) ∧ 1 ≤ ev ∧ ev ≤ 12)
def nextF (s ev : Int) (win : Bool) : Int := if inR s ev then (match stepF s ev win with | none => s | some (m, _) => m) else 0
def doF (s ev : Int) (win : Bool) : List Int := if inR s ev then (match stepF s ev win with | none => [] | some (_, l) => l) else []
def errF (s ev : Int) : Int := if inR s ev then 0 else 1
theorem doF_le (s ev : Int) (win : Bool) : (doF s ev win).length ≤ 3 := by
  unfold doF
  split
  · split
    · simp
    · rename_i h
      unfold stepF at h
      simp only [Option.map_eq_some_iff, Prod.mk.injEq] at h
      obtain ⟨r, h1, _, h3⟩ := h
      have hm := List.mem_of_find?_eq_some h1
      have : ∀ r ∈ rows, r.2.2.2.2.length ≤ 3 := by decide +kernel
      rw [← h3]; exact this r hm
  · simp

/-- What a step answers: the next state, what is done in a row of its own, the error. -/
def StepPost (w : World) (n : Int) (xs : List Int) (er : Int) (e : Ending) (w' : World) : Prop :=
  Below w.heap.size w w' ∧ ∃ v, e = .returned (.tuple #[.int .i64 n, v, .int .i64 er]) ∧ Row .i64 3 w.heap.size w' v xs
theorem stepBad0 (s ev : Int) (win : Bool) (w : World) (h : s < 0)  : Calls Try.prog 8 #[.int .i64 s, .int .i64 ev, .bool win] w (StepPost w (nextF s ev win) (doF s ev win) (errF s ev)) := by
  have hi : inR s ev = false := decide_eq_false (by omega)
  rw [show nextF s ev win = 0 from by unfold nextF; simp [hi], show doF s ev win = [] from by unfold doF; simp [hi], show errF s ev = 1 from by unfold errF; simp [hi]]
  clear hi
  go_enter Try.func8, Try.ntmps8
  go_wp2
  go_ret3
  exact ⟨Below.refl _ _, _, rfl, ⟨rfl, .inl ⟨rfl, rfl⟩⟩⟩
theorem stepBad1 (s ev : Int) (win : Bool) (w : World) (h : 7 < s) (h1 : ¬ s < 0) : Calls Try.prog 8 #[.int .i64 s, .int .i64 ev, .bool win] w (StepPost w (nextF s ev win) (doF s ev win) (errF s ev)) := by
  have hi : inR s ev = false := decide_eq_false (by omega)
  rw [show nextF s ev win = 0 from by unfold nextF; simp [hi], show doF s ev win = [] from by unfold doF; simp [hi], show errF s ev = 1 from by unfold errF; simp [hi]]
  clear hi
  go_enter Try.func8, Try.ntmps8
  go_wp2
  go_ret3
  exact ⟨Below.refl _ _, _, rfl, ⟨rfl, .inl ⟨rfl, rfl⟩⟩⟩
theorem stepBad2 (s ev : Int) (win : Bool) (w : World) (h : ev < 1) (h1 : ¬ s < 0) (h2 : ¬ 7 < s) : Calls Try.prog 8 #[.int .i64 s, .int .i64 ev, .bool win] w (StepPost w (nextF s ev win) (doF s ev win) (errF s ev)) := by
  have hi : inR s ev = false := decide_eq_false (by omega)
  rw [show nextF s ev win = 0 from by unfold nextF; simp [hi], show doF s ev win = [] from by unfold doF; simp [hi], show errF s ev = 1 from by unfold errF; simp [hi]]
  clear hi
  go_enter Try.func8, Try.ntmps8
  go_wp2
  go_ret3
  exact ⟨Below.refl _ _, _, rfl, ⟨rfl, .inl ⟨rfl, rfl⟩⟩⟩
theorem stepBad3 (s ev : Int) (win : Bool) (w : World) (h : 12 < ev) (h1 : ¬ s < 0) (h2 : ¬ 7 < s) (h3 : ¬ ev < 1) : Calls Try.prog 8 #[.int .i64 s, .int .i64 ev, .bool win] w (StepPost w (nextF s ev win) (doF s ev win) (errF s ev)) := by
  have hi : inR s ev = false := decide_eq_false (by omega)
  rw [show nextF s ev win = 0 from by unfold nextF; simp [hi], show doF s ev win = [] from by unfold doF; simp [hi], show errF s ev = 1 from by unfold errF; simp [hi]]
  clear hi
  go_enter Try.func8, Try.ntmps8
  go_wp2
  go_ret3
  exact ⟨Below.refl _ _, _, rfl, ⟨rfl, .inl ⟨rfl, rfl⟩⟩⟩
set_option maxRecDepth 100000 in
set_option maxHeartbeats 1600000 in
theorem step0 (ev : Int) (win : Bool) (w : World) (he : 1 ≤ ev ∧ ev ≤ 12) : Calls Try.prog 8 #[.int .i64 0, .int .i64 ev, .bool win] w (StepPost w (nextF 0 ev win) (doF 0 ev win) (errF 0 ev)) := by
  have hi : inR 0 ev = true := decide_eq_true (by omega)
  have HI := Lib.hid hi
  rw [show errF 0 ev = 0 from by unfold errF; simp [hi]]
  clear hi
  have hd1 : ¬ ev < 1 := by omega
  have hd2 : ¬ 12 < ev := by omega
  have h0 := At.new w 38 #[.int .i64 0, .slice none 0 0]
  have hb := (Below.refl w.heap.size w).alloc (Nat.le_refl _) (.cells #[.int .i64 0, .slice none 0 0] 38)
  go_enter Try.func8, Try.ntmps8
  go_wp2_with fail
  refine (opening 0 ev win _ (by omega) he).mono ?_
  rintro e w1 ⟨b1, hk⟩
  replace b1 := below_of (a := (w.alloc (.cells #[.int .i64 0, .slice none 0 0] 38))) b1 rfl
  have h1 := h0.ext b1
  have hb1 := hb.trans (b1.mono hb.size)
  clear b1 h0 hb
  cases hst : stepF 0 ev win with
  | none =>
    rw [hst] at hk
    obtain ⟨n, p, l, c, rfl⟩ := hk
    have HN := Lib.hid (show nextF 0 ev win = 0 from by unfold nextF; rw [HI.out, hst]; rfl)
    have HD := Lib.hid (show doF 0 ev win = [] from by unfold doF; rw [HI.out, hst]; rfl)
    clear hst
    go_wp2_with (refine wpList_store_row rfl 38 _ _ rfl w.heap.size #[.int .i64 n, .slice p l c] rfl rfl 38 _ h1 (by kernel_rfl) rfl (by simp [Value.oneCell']) ?_)
    go_ret3
    rw [HN.out, HD.out]
    exact ⟨below_setRow hb1 (Nat.le_refl _) _, _, rfl, ⟨rfl, .inl ⟨rfl, rfl⟩⟩⟩
  | some ml =>
    obtain ⟨m, xs⟩ := ml
    rw [hst] at hk
    obtain ⟨p, c, rfl, hpb, hr⟩ := hk
    have HN := Lib.hid (show nextF 0 ev win = m from by unfold nextF; rw [HI.out, hst]; rfl)
    have HD := Lib.hid (show doF 0 ev win = xs from by unfold doF; rw [HI.out, hst]; rfl)
    have hxl : xs.length ≤ 3 := by rw [← HD.out]; exact doF_le _ _ _
    clear hst
    rw [World.size_alloc] at hpb
    have h2 : At (w1.setRow w.heap.size #[.int .i64 m, .slice p xs.length c]) w.heap.size 38 #[.int .i64 m, .slice p xs.length c] := h1.row
    have hr2 : Reads .i64 (w1.setRow w.heap.size #[.int .i64 m, .slice p xs.length c]) (.slice p xs.length c) xs := reads_row hr (fun b off e => by have := hpb b off e; omega)
    have hb2 := below_setRow (cs := #[.int .i64 m, .slice p xs.length c]) hb1 (Nat.le_refl _)
    go_wp2_with (refine wpList_store_row rfl 38 _ _ rfl w.heap.size #[.int .i64 m, .slice p xs.length c] rfl rfl 38 _ h1 (by kernel_rfl) rfl (by simp [Value.oneCell']) ?_)
    generalize (w1.setRow w.heap.size #[.int .i64 m, .slice p xs.length c]) = W at *
    clear h1 hb1 hr hpb
    have hge := hb2.size
    refine Mono.wp_region_mono [some 56, some 57, some 58, some 59, some 60, some 6, some 7, some 8] [Mono.isV (.pointer (some ⟨w.heap.size, 0, none⟩)), Mono.isV (.int .i64 m), Mono.isV (.pointer (some ⟨w.heap.size, 1, none⟩)), Mono.isV (.slice p xs.length c), rowP .i64 3 w.heap.size xs, Mono.isV (.int .i64 m), rowP .i64 3 w.heap.size xs, Mono.isV (.int .i64 0)] (by kernel_rfl) (by kernel_rfl) ?_ ?_
    · simp only [Mono.OpGoals, and_true]
      refine ⟨?_, ?_, ?_, ?_, ?_, ?_, ?_, ?_⟩
      all_goals
        intro a u hbu hsu hdu
        have h3 := h2.ext hbu
        have c0 := h3.cell 0
        have c1 := h3.cell 1
        have e9 : a.eval (.tmp 9) = .pointer (some ⟨w.heap.size, 0, none⟩) := hsu 9 (by decide)
        have hru := hr2.below hbu
        have hgu := hbu.size
        simp at hdu e9 c0 c1
        clear hsu
        simp [*, rowP]
        go_wp2_with (go_at_call 18; refine (clone _ _ _ hru (by omega)).mono ?_; rintro e w3 ⟨v3, rfl, ho3, hb3⟩)
      all_goals first | exact Below.refl _ _ | exact ⟨_, rfl, Row.mono ho3 (by omega)⟩ | exact ⟨_, rfl, Below.refl _ _, by assumption⟩ | exact ⟨_, rfl, Below.refl _ _, hdu⟩ | exact ⟨_, rfl, Below.refl _ _, hdu.1⟩ | trace_state
    · intro u hu
      simp [rowP]
      intro v1 h1 v2 h2
      go_wp2
      go_ret3
      rw [HN.out, HD.out]
      exact ⟨hb2.trans (hu.mono hge), _, rfl, h2⟩
set_option maxRecDepth 100000 in
set_option maxHeartbeats 1600000 in
theorem step1 (ev : Int) (win : Bool) (w : World) (he : 1 ≤ ev ∧ ev ≤ 12) : Calls Try.prog 8 #[.int .i64 1, .int .i64 ev, .bool win] w (StepPost w (nextF 1 ev win) (doF 1 ev win) (errF 1 ev)) := by
  have hi : inR 1 ev = true := decide_eq_true (by omega)
  have HI := Lib.hid hi
  rw [show errF 1 ev = 0 from by unfold errF; simp [hi]]
  clear hi
  have hd1 : ¬ ev < 1 := by omega
  have hd2 : ¬ 12 < ev := by omega
  have h0 := At.new w 38 #[.int .i64 0, .slice none 0 0]
  have hb := (Below.refl w.heap.size w).alloc (Nat.le_refl _) (.cells #[.int .i64 0, .slice none 0 0] 38)
  go_enter Try.func8, Try.ntmps8
  go_wp2_with fail
  refine (opening 1 ev win _ (by omega) he).mono ?_
  rintro e w1 ⟨b1, hk⟩
  replace b1 := below_of (a := (w.alloc (.cells #[.int .i64 0, .slice none 0 0] 38))) b1 rfl
  have h1 := h0.ext b1
  have hb1 := hb.trans (b1.mono hb.size)
  clear b1 h0 hb
  cases hst : stepF 1 ev win with
  | none =>
    rw [hst] at hk
    obtain ⟨n, p, l, c, rfl⟩ := hk
    have HN := Lib.hid (show nextF 1 ev win = 1 from by unfold nextF; rw [HI.out, hst]; rfl)
    have HD := Lib.hid (show doF 1 ev win = [] from by unfold doF; rw [HI.out, hst]; rfl)
    clear hst
    go_wp2_with (refine wpList_store_row rfl 38 _ _ rfl w.heap.size #[.int .i64 n, .slice p l c] rfl rfl 38 _ h1 (by kernel_rfl) rfl (by simp [Value.oneCell']) ?_)
    go_ret3
    rw [HN.out, HD.out]
    exact ⟨below_setRow hb1 (Nat.le_refl _) _, _, rfl, ⟨rfl, .inl ⟨rfl, rfl⟩⟩⟩
  | some ml =>
    obtain ⟨m, xs⟩ := ml
    rw [hst] at hk
    obtain ⟨p, c, rfl, hpb, hr⟩ := hk
    have HN := Lib.hid (show nextF 1 ev win = m from by unfold nextF; rw [HI.out, hst]; rfl)
    have HD := Lib.hid (show doF 1 ev win = xs from by unfold doF; rw [HI.out, hst]; rfl)
    have hxl : xs.length ≤ 3 := by rw [← HD.out]; exact doF_le _ _ _
    clear hst
    rw [World.size_alloc] at hpb
    have h2 : At (w1.setRow w.heap.size #[.int .i64 m, .slice p xs.length c]) w.heap.size 38 #[.int .i64 m, .slice p xs.length c] := h1.row
    have hr2 : Reads .i64 (w1.setRow w.heap.size #[.int .i64 m, .slice p xs.length c]) (.slice p xs.length c) xs := reads_row hr (fun b off e => by have := hpb b off e; omega)
    have hb2 := below_setRow (cs := #[.int .i64 m, .slice p xs.length c]) hb1 (Nat.le_refl _)
    go_wp2_with (refine wpList_store_row rfl 38 _ _ rfl w.heap.size #[.int .i64 m, .slice p xs.length c] rfl rfl 38 _ h1 (by kernel_rfl) rfl (by simp [Value.oneCell']) ?_)
    generalize (w1.setRow w.heap.size #[.int .i64 m, .slice p xs.length c]) = W at *
    clear h1 hb1 hr hpb
    have hge := hb2.size
    refine Mono.wp_region_mono [some 56, some 57, some 58, some 59, some 60, some 6, some 7, some 8] [Mono.isV (.pointer (some ⟨w.heap.size, 0, none⟩)), Mono.isV (.int .i64 m), Mono.isV (.pointer (some ⟨w.heap.size, 1, none⟩)), Mono.isV (.slice p xs.length c), rowP .i64 3 w.heap.size xs, Mono.isV (.int .i64 m), rowP .i64 3 w.heap.size xs, Mono.isV (.int .i64 0)] (by kernel_rfl) (by kernel_rfl) ?_ ?_
    · simp only [Mono.OpGoals, and_true]
      refine ⟨?_, ?_, ?_, ?_, ?_, ?_, ?_, ?_⟩
      all_goals
        intro a u hbu hsu hdu
        have h3 := h2.ext hbu
        have c0 := h3.cell 0
        have c1 := h3.cell 1
        have e9 : a.eval (.tmp 9) = .pointer (some ⟨w.heap.size, 0, none⟩) := hsu 9 (by decide)
        have hru := hr2.below hbu
        have hgu := hbu.size
        simp at hdu e9 c0 c1
        clear hsu
        simp [*, rowP]
        go_wp2_with (go_at_call 18; refine (clone _ _ _ hru (by omega)).mono ?_; rintro e w3 ⟨v3, rfl, ho3, hb3⟩)
      all_goals first | exact Below.refl _ _ | exact ⟨_, rfl, Row.mono ho3 (by omega)⟩ | exact ⟨_, rfl, Below.refl _ _, by assumption⟩ | exact ⟨_, rfl, Below.refl _ _, hdu⟩ | exact ⟨_, rfl, Below.refl _ _, hdu.1⟩ | trace_state
    · intro u hu
      simp [rowP]
      intro v1 h1 v2 h2
      go_wp2
      go_ret3
      rw [HN.out, HD.out]
      exact ⟨hb2.trans (hu.mono hge), _, rfl, h2⟩
set_option maxRecDepth 100000 in
set_option maxHeartbeats 1600000 in
theorem step2 (ev : Int) (win : Bool) (w : World) (he : 1 ≤ ev ∧ ev ≤ 12) : Calls Try.prog 8 #[.int .i64 2, .int .i64 ev, .bool win] w (StepPost w (nextF 2 ev win) (doF 2 ev win) (errF 2 ev)) := by
  have hi : inR 2 ev = true := decide_eq_true (by omega)
  have HI := Lib.hid hi
  rw [show errF 2 ev = 0 from by unfold errF; simp [hi]]
  clear hi
  have hd1 : ¬ ev < 1 := by omega
  have hd2 : ¬ 12 < ev := by omega
  have h0 := At.new w 38 #[.int .i64 0, .slice none 0 0]
  have hb := (Below.refl w.heap.size w).alloc (Nat.le_refl _) (.cells #[.int .i64 0, .slice none 0 0] 38)
  go_enter Try.func8, Try.ntmps8
  go_wp2_with fail
  refine (opening 2 ev win _ (by omega) he).mono ?_
  rintro e w1 ⟨b1, hk⟩
  replace b1 := below_of (a := (w.alloc (.cells #[.int .i64 0, .slice none 0 0] 38))) b1 rfl
  have h1 := h0.ext b1
  have hb1 := hb.trans (b1.mono hb.size)
  clear b1 h0 hb
  cases hst : stepF 2 ev win with
  | none =>
    rw [hst] at hk
    obtain ⟨n, p, l, c, rfl⟩ := hk
    have HN := Lib.hid (show nextF 2 ev win = 2 from by unfold nextF; rw [HI.out, hst]; rfl)
    have HD := Lib.hid (show doF 2 ev win = [] from by unfold doF; rw [HI.out, hst]; rfl)
    clear hst
    go_wp2_with (refine wpList_store_row rfl 38 _ _ rfl w.heap.size #[.int .i64 n, .slice p l c] rfl rfl 38 _ h1 (by kernel_rfl) rfl (by simp [Value.oneCell']) ?_)
    go_ret3
    rw [HN.out, HD.out]
    exact ⟨below_setRow hb1 (Nat.le_refl _) _, _, rfl, ⟨rfl, .inl ⟨rfl, rfl⟩⟩⟩
  | some ml =>
    obtain ⟨m, xs⟩ := ml
    rw [hst] at hk
    obtain ⟨p, c, rfl, hpb, hr⟩ := hk
    have HN := Lib.hid (show nextF 2 ev win = m from by unfold nextF; rw [HI.out, hst]; rfl)
    have HD := Lib.hid (show doF 2 ev win = xs from by unfold doF; rw [HI.out, hst]; rfl)
    have hxl : xs.length ≤ 3 := by rw [← HD.out]; exact doF_le _ _ _
    clear hst
    rw [World.size_alloc] at hpb
    have h2 : At (w1.setRow w.heap.size #[.int .i64 m, .slice p xs.length c]) w.heap.size 38 #[.int .i64 m, .slice p xs.length c] := h1.row
    have hr2 : Reads .i64 (w1.setRow w.heap.size #[.int .i64 m, .slice p xs.length c]) (.slice p xs.length c) xs := reads_row hr (fun b off e => by have := hpb b off e; omega)
    have hb2 := below_setRow (cs := #[.int .i64 m, .slice p xs.length c]) hb1 (Nat.le_refl _)
    go_wp2_with (refine wpList_store_row rfl 38 _ _ rfl w.heap.size #[.int .i64 m, .slice p xs.length c] rfl rfl 38 _ h1 (by kernel_rfl) rfl (by simp [Value.oneCell']) ?_)
    generalize (w1.setRow w.heap.size #[.int .i64 m, .slice p xs.length c]) = W at *
    clear h1 hb1 hr hpb
    have hge := hb2.size
    refine Mono.wp_region_mono [some 56, some 57, some 58, some 59, some 60, some 6, some 7, some 8] [Mono.isV (.pointer (some ⟨w.heap.size, 0, none⟩)), Mono.isV (.int .i64 m), Mono.isV (.pointer (some ⟨w.heap.size, 1, none⟩)), Mono.isV (.slice p xs.length c), rowP .i64 3 w.heap.size xs, Mono.isV (.int .i64 m), rowP .i64 3 w.heap.size xs, Mono.isV (.int .i64 0)] (by kernel_rfl) (by kernel_rfl) ?_ ?_
    · simp only [Mono.OpGoals, and_true]
      refine ⟨?_, ?_, ?_, ?_, ?_, ?_, ?_, ?_⟩
      all_goals
        intro a u hbu hsu hdu
        have h3 := h2.ext hbu
        have c0 := h3.cell 0
        have c1 := h3.cell 1
        have e9 : a.eval (.tmp 9) = .pointer (some ⟨w.heap.size, 0, none⟩) := hsu 9 (by decide)
        have hru := hr2.below hbu
        have hgu := hbu.size
        simp at hdu e9 c0 c1
        clear hsu
        simp [*, rowP]
        go_wp2_with (go_at_call 18; refine (clone _ _ _ hru (by omega)).mono ?_; rintro e w3 ⟨v3, rfl, ho3, hb3⟩)
      all_goals first | exact Below.refl _ _ | exact ⟨_, rfl, Row.mono ho3 (by omega)⟩ | exact ⟨_, rfl, Below.refl _ _, by assumption⟩ | exact ⟨_, rfl, Below.refl _ _, hdu⟩ | exact ⟨_, rfl, Below.refl _ _, hdu.1⟩ | trace_state
    · intro u hu
      simp [rowP]
      intro v1 h1 v2 h2
      go_wp2
      go_ret3
      rw [HN.out, HD.out]
      exact ⟨hb2.trans (hu.mono hge), _, rfl, h2⟩
set_option maxRecDepth 100000 in
set_option maxHeartbeats 1600000 in
theorem step3 (ev : Int) (win : Bool) (w : World) (he : 1 ≤ ev ∧ ev ≤ 12) : Calls Try.prog 8 #[.int .i64 3, .int .i64 ev, .bool win] w (StepPost w (nextF 3 ev win) (doF 3 ev win) (errF 3 ev)) := by
  have hi : inR 3 ev = true := decide_eq_true (by omega)
  have HI := Lib.hid hi
  rw [show errF 3 ev = 0 from by unfold errF; simp [hi]]
  clear hi
  have hd1 : ¬ ev < 1 := by omega
  have hd2 : ¬ 12 < ev := by omega
  have h0 := At.new w 38 #[.int .i64 0, .slice none 0 0]
  have hb := (Below.refl w.heap.size w).alloc (Nat.le_refl _) (.cells #[.int .i64 0, .slice none 0 0] 38)
  go_enter Try.func8, Try.ntmps8
  go_wp2_with fail
  refine (electing 3 ev win _ (by omega) he).mono ?_
  rintro e w1 ⟨b1, hk⟩
  replace b1 := below_of (a := (w.alloc (.cells #[.int .i64 0, .slice none 0 0] 38))) b1 rfl
  have h1 := h0.ext b1
  have hb1 := hb.trans (b1.mono hb.size)
  clear b1 h0 hb
  cases hst : stepF 3 ev win with
  | none =>
    rw [hst] at hk
    obtain ⟨n, p, l, c, rfl⟩ := hk
    have HN := Lib.hid (show nextF 3 ev win = 3 from by unfold nextF; rw [HI.out, hst]; rfl)
    have HD := Lib.hid (show doF 3 ev win = [] from by unfold doF; rw [HI.out, hst]; rfl)
    clear hst
    go_wp2_with (refine wpList_store_row rfl 38 _ _ rfl w.heap.size #[.int .i64 n, .slice p l c] rfl rfl 38 _ h1 (by kernel_rfl) rfl (by simp [Value.oneCell']) ?_)
    go_ret3
    rw [HN.out, HD.out]
    exact ⟨below_setRow hb1 (Nat.le_refl _) _, _, rfl, ⟨rfl, .inl ⟨rfl, rfl⟩⟩⟩
  | some ml =>
    obtain ⟨m, xs⟩ := ml
    rw [hst] at hk
    obtain ⟨p, c, rfl, hpb, hr⟩ := hk
    have HN := Lib.hid (show nextF 3 ev win = m from by unfold nextF; rw [HI.out, hst]; rfl)
    have HD := Lib.hid (show doF 3 ev win = xs from by unfold doF; rw [HI.out, hst]; rfl)
    have hxl : xs.length ≤ 3 := by rw [← HD.out]; exact doF_le _ _ _
    clear hst
    rw [World.size_alloc] at hpb
    have h2 : At (w1.setRow w.heap.size #[.int .i64 m, .slice p xs.length c]) w.heap.size 38 #[.int .i64 m, .slice p xs.length c] := h1.row
    have hr2 : Reads .i64 (w1.setRow w.heap.size #[.int .i64 m, .slice p xs.length c]) (.slice p xs.length c) xs := reads_row hr (fun b off e => by have := hpb b off e; omega)
    have hb2 := below_setRow (cs := #[.int .i64 m, .slice p xs.length c]) hb1 (Nat.le_refl _)
    go_wp2_with (refine wpList_store_row rfl 38 _ _ rfl w.heap.size #[.int .i64 m, .slice p xs.length c] rfl rfl 38 _ h1 (by kernel_rfl) rfl (by simp [Value.oneCell']) ?_)
    generalize (w1.setRow w.heap.size #[.int .i64 m, .slice p xs.length c]) = W at *
    clear h1 hb1 hr hpb
    have hge := hb2.size
    refine Mono.wp_region_mono [some 56, some 57, some 58, some 59, some 60, some 6, some 7, some 8] [Mono.isV (.pointer (some ⟨w.heap.size, 0, none⟩)), Mono.isV (.int .i64 m), Mono.isV (.pointer (some ⟨w.heap.size, 1, none⟩)), Mono.isV (.slice p xs.length c), rowP .i64 3 w.heap.size xs, Mono.isV (.int .i64 m), rowP .i64 3 w.heap.size xs, Mono.isV (.int .i64 0)] (by kernel_rfl) (by kernel_rfl) ?_ ?_
    · simp only [Mono.OpGoals, and_true]
      refine ⟨?_, ?_, ?_, ?_, ?_, ?_, ?_, ?_⟩
      all_goals
        intro a u hbu hsu hdu
        have h3 := h2.ext hbu
        have c0 := h3.cell 0
        have c1 := h3.cell 1
        have e9 : a.eval (.tmp 9) = .pointer (some ⟨w.heap.size, 0, none⟩) := hsu 9 (by decide)
        have hru := hr2.below hbu
        have hgu := hbu.size
        simp at hdu e9 c0 c1
        clear hsu
        simp [*, rowP]
        go_wp2_with (go_at_call 18; refine (clone _ _ _ hru (by omega)).mono ?_; rintro e w3 ⟨v3, rfl, ho3, hb3⟩)
      all_goals first | exact Below.refl _ _ | exact ⟨_, rfl, Row.mono ho3 (by omega)⟩ | exact ⟨_, rfl, Below.refl _ _, by assumption⟩ | exact ⟨_, rfl, Below.refl _ _, hdu⟩ | exact ⟨_, rfl, Below.refl _ _, hdu.1⟩ | trace_state
    · intro u hu
      simp [rowP]
      intro v1 h1 v2 h2
      go_wp2
      go_ret3
      rw [HN.out, HD.out]
      exact ⟨hb2.trans (hu.mono hge), _, rfl, h2⟩
set_option maxRecDepth 100000 in
set_option maxHeartbeats 1600000 in
theorem step4 (ev : Int) (win : Bool) (w : World) (he : 1 ≤ ev ∧ ev ≤ 12) : Calls Try.prog 8 #[.int .i64 4, .int .i64 ev, .bool win] w (StepPost w (nextF 4 ev win) (doF 4 ev win) (errF 4 ev)) := by
  have hi : inR 4 ev = true := decide_eq_true (by omega)
  have HI := Lib.hid hi
  rw [show errF 4 ev = 0 from by unfold errF; simp [hi]]
  clear hi
  have hd1 : ¬ ev < 1 := by omega
  have hd2 : ¬ 12 < ev := by omega
  have h0 := At.new w 38 #[.int .i64 0, .slice none 0 0]
  have hb := (Below.refl w.heap.size w).alloc (Nat.le_refl _) (.cells #[.int .i64 0, .slice none 0 0] 38)
  go_enter Try.func8, Try.ntmps8
  go_wp2_with fail
  refine (electing 4 ev win _ (by omega) he).mono ?_
  rintro e w1 ⟨b1, hk⟩
  replace b1 := below_of (a := (w.alloc (.cells #[.int .i64 0, .slice none 0 0] 38))) b1 rfl
  have h1 := h0.ext b1
  have hb1 := hb.trans (b1.mono hb.size)
  clear b1 h0 hb
  cases hst : stepF 4 ev win with
  | none =>
    rw [hst] at hk
    obtain ⟨n, p, l, c, rfl⟩ := hk
    have HN := Lib.hid (show nextF 4 ev win = 4 from by unfold nextF; rw [HI.out, hst]; rfl)
    have HD := Lib.hid (show doF 4 ev win = [] from by unfold doF; rw [HI.out, hst]; rfl)
    clear hst
    go_wp2_with (refine wpList_store_row rfl 38 _ _ rfl w.heap.size #[.int .i64 n, .slice p l c] rfl rfl 38 _ h1 (by kernel_rfl) rfl (by simp [Value.oneCell']) ?_)
    go_ret3
    rw [HN.out, HD.out]
    exact ⟨below_setRow hb1 (Nat.le_refl _) _, _, rfl, ⟨rfl, .inl ⟨rfl, rfl⟩⟩⟩
  | some ml =>
    obtain ⟨m, xs⟩ := ml
    rw [hst] at hk
    obtain ⟨p, c, rfl, hpb, hr⟩ := hk
    have HN := Lib.hid (show nextF 4 ev win = m from by unfold nextF; rw [HI.out, hst]; rfl)
    have HD := Lib.hid (show doF 4 ev win = xs from by unfold doF; rw [HI.out, hst]; rfl)
    have hxl : xs.length ≤ 3 := by rw [← HD.out]; exact doF_le _ _ _
    clear hst
    rw [World.size_alloc] at hpb
    have h2 : At (w1.setRow w.heap.size #[.int .i64 m, .slice p xs.length c]) w.heap.size 38 #[.int .i64 m, .slice p xs.length c] := h1.row
    have hr2 : Reads .i64 (w1.setRow w.heap.size #[.int .i64 m, .slice p xs.length c]) (.slice p xs.length c) xs := reads_row hr (fun b off e => by have := hpb b off e; omega)
    have hb2 := below_setRow (cs := #[.int .i64 m, .slice p xs.length c]) hb1 (Nat.le_refl _)
    go_wp2_with (refine wpList_store_row rfl 38 _ _ rfl w.heap.size #[.int .i64 m, .slice p xs.length c] rfl rfl 38 _ h1 (by kernel_rfl) rfl (by simp [Value.oneCell']) ?_)
    generalize (w1.setRow w.heap.size #[.int .i64 m, .slice p xs.length c]) = W at *
    clear h1 hb1 hr hpb
    have hge := hb2.size
    refine Mono.wp_region_mono [some 56, some 57, some 58, some 59, some 60, some 6, some 7, some 8] [Mono.isV (.pointer (some ⟨w.heap.size, 0, none⟩)), Mono.isV (.int .i64 m), Mono.isV (.pointer (some ⟨w.heap.size, 1, none⟩)), Mono.isV (.slice p xs.length c), rowP .i64 3 w.heap.size xs, Mono.isV (.int .i64 m), rowP .i64 3 w.heap.size xs, Mono.isV (.int .i64 0)] (by kernel_rfl) (by kernel_rfl) ?_ ?_
    · simp only [Mono.OpGoals, and_true]
      refine ⟨?_, ?_, ?_, ?_, ?_, ?_, ?_, ?_⟩
      all_goals
        intro a u hbu hsu hdu
        have h3 := h2.ext hbu
        have c0 := h3.cell 0
        have c1 := h3.cell 1
        have e9 : a.eval (.tmp 9) = .pointer (some ⟨w.heap.size, 0, none⟩) := hsu 9 (by decide)
        have hru := hr2.below hbu
        have hgu := hbu.size
        simp at hdu e9 c0 c1
        clear hsu
        simp [*, rowP]
        go_wp2_with (go_at_call 18; refine (clone _ _ _ hru (by omega)).mono ?_; rintro e w3 ⟨v3, rfl, ho3, hb3⟩)
      all_goals first | exact Below.refl _ _ | exact ⟨_, rfl, Row.mono ho3 (by omega)⟩ | exact ⟨_, rfl, Below.refl _ _, by assumption⟩ | exact ⟨_, rfl, Below.refl _ _, hdu⟩ | exact ⟨_, rfl, Below.refl _ _, hdu.1⟩ | trace_state
    · intro u hu
      simp [rowP]
      intro v1 h1 v2 h2
      go_wp2
      go_ret3
      rw [HN.out, HD.out]
      exact ⟨hb2.trans (hu.mono hge), _, rfl, h2⟩
set_option maxRecDepth 100000 in
set_option maxHeartbeats 1600000 in
theorem step5 (ev : Int) (win : Bool) (w : World) (he : 1 ≤ ev ∧ ev ≤ 12) : Calls Try.prog 8 #[.int .i64 5, .int .i64 ev, .bool win] w (StepPost w (nextF 5 ev win) (doF 5 ev win) (errF 5 ev)) := by
  have hi : inR 5 ev = true := decide_eq_true (by omega)
  have HI := Lib.hid hi
  rw [show errF 5 ev = 0 from by unfold errF; simp [hi]]
  clear hi
  have hd1 : ¬ ev < 1 := by omega
  have hd2 : ¬ 12 < ev := by omega
  have h0 := At.new w 38 #[.int .i64 0, .slice none 0 0]
  have hb := (Below.refl w.heap.size w).alloc (Nat.le_refl _) (.cells #[.int .i64 0, .slice none 0 0] 38)
  go_enter Try.func8, Try.ntmps8
  go_wp2_with fail
  refine (open_ 5 ev win _ (by omega) he).mono ?_
  rintro e w1 ⟨b1, hk⟩
  replace b1 := below_of (a := (w.alloc (.cells #[.int .i64 0, .slice none 0 0] 38))) b1 rfl
  have h1 := h0.ext b1
  have hb1 := hb.trans (b1.mono hb.size)
  clear b1 h0 hb
  cases hst : stepF 5 ev win with
  | none =>
    rw [hst] at hk
    obtain ⟨n, p, l, c, rfl⟩ := hk
    have HN := Lib.hid (show nextF 5 ev win = 5 from by unfold nextF; rw [HI.out, hst]; rfl)
    have HD := Lib.hid (show doF 5 ev win = [] from by unfold doF; rw [HI.out, hst]; rfl)
    clear hst
    go_wp2_with (refine wpList_store_row rfl 38 _ _ rfl w.heap.size #[.int .i64 n, .slice p l c] rfl rfl 38 _ h1 (by kernel_rfl) rfl (by simp [Value.oneCell']) ?_)
    go_ret3
    rw [HN.out, HD.out]
    exact ⟨below_setRow hb1 (Nat.le_refl _) _, _, rfl, ⟨rfl, .inl ⟨rfl, rfl⟩⟩⟩
  | some ml =>
    obtain ⟨m, xs⟩ := ml
    rw [hst] at hk
    obtain ⟨p, c, rfl, hpb, hr⟩ := hk
    have HN := Lib.hid (show nextF 5 ev win = m from by unfold nextF; rw [HI.out, hst]; rfl)
    have HD := Lib.hid (show doF 5 ev win = xs from by unfold doF; rw [HI.out, hst]; rfl)
    have hxl : xs.length ≤ 3 := by rw [← HD.out]; exact doF_le _ _ _
    clear hst
    rw [World.size_alloc] at hpb
    have h2 : At (w1.setRow w.heap.size #[.int .i64 m, .slice p xs.length c]) w.heap.size 38 #[.int .i64 m, .slice p xs.length c] := h1.row
    have hr2 : Reads .i64 (w1.setRow w.heap.size #[.int .i64 m, .slice p xs.length c]) (.slice p xs.length c) xs := reads_row hr (fun b off e => by have := hpb b off e; omega)
    have hb2 := below_setRow (cs := #[.int .i64 m, .slice p xs.length c]) hb1 (Nat.le_refl _)
    go_wp2_with (refine wpList_store_row rfl 38 _ _ rfl w.heap.size #[.int .i64 m, .slice p xs.length c] rfl rfl 38 _ h1 (by kernel_rfl) rfl (by simp [Value.oneCell']) ?_)
    generalize (w1.setRow w.heap.size #[.int .i64 m, .slice p xs.length c]) = W at *
    clear h1 hb1 hr hpb
    have hge := hb2.size
    refine Mono.wp_region_mono [some 56, some 57, some 58, some 59, some 60, some 6, some 7, some 8] [Mono.isV (.pointer (some ⟨w.heap.size, 0, none⟩)), Mono.isV (.int .i64 m), Mono.isV (.pointer (some ⟨w.heap.size, 1, none⟩)), Mono.isV (.slice p xs.length c), rowP .i64 3 w.heap.size xs, Mono.isV (.int .i64 m), rowP .i64 3 w.heap.size xs, Mono.isV (.int .i64 0)] (by kernel_rfl) (by kernel_rfl) ?_ ?_
    · simp only [Mono.OpGoals, and_true]
      refine ⟨?_, ?_, ?_, ?_, ?_, ?_, ?_, ?_⟩
      all_goals
        intro a u hbu hsu hdu
        have h3 := h2.ext hbu
        have c0 := h3.cell 0
        have c1 := h3.cell 1
        have e9 : a.eval (.tmp 9) = .pointer (some ⟨w.heap.size, 0, none⟩) := hsu 9 (by decide)
        have hru := hr2.below hbu
        have hgu := hbu.size
        simp at hdu e9 c0 c1
        clear hsu
        simp [*, rowP]
        go_wp2_with (go_at_call 18; refine (clone _ _ _ hru (by omega)).mono ?_; rintro e w3 ⟨v3, rfl, ho3, hb3⟩)
      all_goals first | exact Below.refl _ _ | exact ⟨_, rfl, Row.mono ho3 (by omega)⟩ | exact ⟨_, rfl, Below.refl _ _, by assumption⟩ | exact ⟨_, rfl, Below.refl _ _, hdu⟩ | exact ⟨_, rfl, Below.refl _ _, hdu.1⟩ | trace_state
    · intro u hu
      simp [rowP]
      intro v1 h1 v2 h2
      go_wp2
      go_ret3
      rw [HN.out, HD.out]
      exact ⟨hb2.trans (hu.mono hge), _, rfl, h2⟩
set_option maxRecDepth 100000 in
set_option maxHeartbeats 1600000 in
theorem step6 (ev : Int) (win : Bool) (w : World) (he : 1 ≤ ev ∧ ev ≤ 12) : Calls Try.prog 8 #[.int .i64 6, .int .i64 ev, .bool win] w (StepPost w (nextF 6 ev win) (doF 6 ev win) (errF 6 ev)) := by
  have hi : inR 6 ev = true := decide_eq_true (by omega)
  have HI := Lib.hid hi
  rw [show errF 6 ev = 0 from by unfold errF; simp [hi]]
  clear hi
  have hd1 : ¬ ev < 1 := by omega
  have hd2 : ¬ 12 < ev := by omega
  have h0 := At.new w 38 #[.int .i64 0, .slice none 0 0]
  have hb := (Below.refl w.heap.size w).alloc (Nat.le_refl _) (.cells #[.int .i64 0, .slice none 0 0] 38)
  go_enter Try.func8, Try.ntmps8
  go_wp2_with fail
  refine (open_ 6 ev win _ (by omega) he).mono ?_
  rintro e w1 ⟨b1, hk⟩
  replace b1 := below_of (a := (w.alloc (.cells #[.int .i64 0, .slice none 0 0] 38))) b1 rfl
  have h1 := h0.ext b1
  have hb1 := hb.trans (b1.mono hb.size)
  clear b1 h0 hb
  cases hst : stepF 6 ev win with
  | none =>
    rw [hst] at hk
    obtain ⟨n, p, l, c, rfl⟩ := hk
    have HN := Lib.hid (show nextF 6 ev win = 6 from by unfold nextF; rw [HI.out, hst]; rfl)
    have HD := Lib.hid (show doF 6 ev win = [] from by unfold doF; rw [HI.out, hst]; rfl)
    clear hst
    go_wp2_with (refine wpList_store_row rfl 38 _ _ rfl w.heap.size #[.int .i64 n, .slice p l c] rfl rfl 38 _ h1 (by kernel_rfl) rfl (by simp [Value.oneCell']) ?_)
    go_ret3
    rw [HN.out, HD.out]
    exact ⟨below_setRow hb1 (Nat.le_refl _) _, _, rfl, ⟨rfl, .inl ⟨rfl, rfl⟩⟩⟩
  | some ml =>
    obtain ⟨m, xs⟩ := ml
    rw [hst] at hk
    obtain ⟨p, c, rfl, hpb, hr⟩ := hk
    have HN := Lib.hid (show nextF 6 ev win = m from by unfold nextF; rw [HI.out, hst]; rfl)
    have HD := Lib.hid (show doF 6 ev win = xs from by unfold doF; rw [HI.out, hst]; rfl)
    have hxl : xs.length ≤ 3 := by rw [← HD.out]; exact doF_le _ _ _
    clear hst
    rw [World.size_alloc] at hpb
    have h2 : At (w1.setRow w.heap.size #[.int .i64 m, .slice p xs.length c]) w.heap.size 38 #[.int .i64 m, .slice p xs.length c] := h1.row
    have hr2 : Reads .i64 (w1.setRow w.heap.size #[.int .i64 m, .slice p xs.length c]) (.slice p xs.length c) xs := reads_row hr (fun b off e => by have := hpb b off e; omega)
    have hb2 := below_setRow (cs := #[.int .i64 m, .slice p xs.length c]) hb1 (Nat.le_refl _)
    go_wp2_with (refine wpList_store_row rfl 38 _ _ rfl w.heap.size #[.int .i64 m, .slice p xs.length c] rfl rfl 38 _ h1 (by kernel_rfl) rfl (by simp [Value.oneCell']) ?_)
    generalize (w1.setRow w.heap.size #[.int .i64 m, .slice p xs.length c]) = W at *
    clear h1 hb1 hr hpb
    have hge := hb2.size
    refine Mono.wp_region_mono [some 56, some 57, some 58, some 59, some 60, some 6, some 7, some 8] [Mono.isV (.pointer (some ⟨w.heap.size, 0, none⟩)), Mono.isV (.int .i64 m), Mono.isV (.pointer (some ⟨w.heap.size, 1, none⟩)), Mono.isV (.slice p xs.length c), rowP .i64 3 w.heap.size xs, Mono.isV (.int .i64 m), rowP .i64 3 w.heap.size xs, Mono.isV (.int .i64 0)] (by kernel_rfl) (by kernel_rfl) ?_ ?_
    · simp only [Mono.OpGoals, and_true]
      refine ⟨?_, ?_, ?_, ?_, ?_, ?_, ?_, ?_⟩
      all_goals
        intro a u hbu hsu hdu
        have h3 := h2.ext hbu
        have c0 := h3.cell 0
        have c1 := h3.cell 1
        have e9 : a.eval (.tmp 9) = .pointer (some ⟨w.heap.size, 0, none⟩) := hsu 9 (by decide)
        have hru := hr2.below hbu
        have hgu := hbu.size
        simp at hdu e9 c0 c1
        clear hsu
        simp [*, rowP]
        go_wp2_with (go_at_call 18; refine (clone _ _ _ hru (by omega)).mono ?_; rintro e w3 ⟨v3, rfl, ho3, hb3⟩)
      all_goals first | exact Below.refl _ _ | exact ⟨_, rfl, Row.mono ho3 (by omega)⟩ | exact ⟨_, rfl, Below.refl _ _, by assumption⟩ | exact ⟨_, rfl, Below.refl _ _, hdu⟩ | exact ⟨_, rfl, Below.refl _ _, hdu.1⟩ | trace_state
    · intro u hu
      simp [rowP]
      intro v1 h1 v2 h2
      go_wp2
      go_ret3
      rw [HN.out, HD.out]
      exact ⟨hb2.trans (hu.mono hge), _, rfl, h2⟩
set_option maxRecDepth 100000 in
set_option maxHeartbeats 1600000 in
theorem step7 (ev : Int) (win : Bool) (w : World) (he : 1 ≤ ev ∧ ev ≤ 12) : Calls Try.prog 8 #[.int .i64 7, .int .i64 ev, .bool win] w (StepPost w (nextF 7 ev win) (doF 7 ev win) (errF 7 ev)) := by
  have hi : inR 7 ev = true := decide_eq_true (by omega)
  have HI := Lib.hid hi
  rw [show errF 7 ev = 0 from by unfold errF; simp [hi]]
  clear hi
  have hd1 : ¬ ev < 1 := by omega
  have hd2 : ¬ 12 < ev := by omega
  have h0 := At.new w 38 #[.int .i64 0, .slice none 0 0]
  have hb := (Below.refl w.heap.size w).alloc (Nat.le_refl _) (.cells #[.int .i64 0, .slice none 0 0] 38)
  go_enter Try.func8, Try.ntmps8
  go_wp2_with fail
  refine (open_ 7 ev win _ (by omega) he).mono ?_
  rintro e w1 ⟨b1, hk⟩
  replace b1 := below_of (a := (w.alloc (.cells #[.int .i64 0, .slice none 0 0] 38))) b1 rfl
  have h1 := h0.ext b1
  have hb1 := hb.trans (b1.mono hb.size)
  clear b1 h0 hb
  cases hst : stepF 7 ev win with
  | none =>
    rw [hst] at hk
    obtain ⟨n, p, l, c, rfl⟩ := hk
    have HN := Lib.hid (show nextF 7 ev win = 7 from by unfold nextF; rw [HI.out, hst]; rfl)
    have HD := Lib.hid (show doF 7 ev win = [] from by unfold doF; rw [HI.out, hst]; rfl)
    clear hst
    go_wp2_with (refine wpList_store_row rfl 38 _ _ rfl w.heap.size #[.int .i64 n, .slice p l c] rfl rfl 38 _ h1 (by kernel_rfl) rfl (by simp [Value.oneCell']) ?_)
    go_ret3
    rw [HN.out, HD.out]
    exact ⟨below_setRow hb1 (Nat.le_refl _) _, _, rfl, ⟨rfl, .inl ⟨rfl, rfl⟩⟩⟩
  | some ml =>
    obtain ⟨m, xs⟩ := ml
    rw [hst] at hk
    obtain ⟨p, c, rfl, hpb, hr⟩ := hk
    have HN := Lib.hid (show nextF 7 ev win = m from by unfold nextF; rw [HI.out, hst]; rfl)
    have HD := Lib.hid (show doF 7 ev win = xs from by unfold doF; rw [HI.out, hst]; rfl)
    have hxl : xs.length ≤ 3 := by rw [← HD.out]; exact doF_le _ _ _
    clear hst
    rw [World.size_alloc] at hpb
    have h2 : At (w1.setRow w.heap.size #[.int .i64 m, .slice p xs.length c]) w.heap.size 38 #[.int .i64 m, .slice p xs.length c] := h1.row
    have hr2 : Reads .i64 (w1.setRow w.heap.size #[.int .i64 m, .slice p xs.length c]) (.slice p xs.length c) xs := reads_row hr (fun b off e => by have := hpb b off e; omega)
    have hb2 := below_setRow (cs := #[.int .i64 m, .slice p xs.length c]) hb1 (Nat.le_refl _)
    go_wp2_with (refine wpList_store_row rfl 38 _ _ rfl w.heap.size #[.int .i64 m, .slice p xs.length c] rfl rfl 38 _ h1 (by kernel_rfl) rfl (by simp [Value.oneCell']) ?_)
    generalize (w1.setRow w.heap.size #[.int .i64 m, .slice p xs.length c]) = W at *
    clear h1 hb1 hr hpb
    have hge := hb2.size
    refine Mono.wp_region_mono [some 56, some 57, some 58, some 59, some 60, some 6, some 7, some 8] [Mono.isV (.pointer (some ⟨w.heap.size, 0, none⟩)), Mono.isV (.int .i64 m), Mono.isV (.pointer (some ⟨w.heap.size, 1, none⟩)), Mono.isV (.slice p xs.length c), rowP .i64 3 w.heap.size xs, Mono.isV (.int .i64 m), rowP .i64 3 w.heap.size xs, Mono.isV (.int .i64 0)] (by kernel_rfl) (by kernel_rfl) ?_ ?_
    · simp only [Mono.OpGoals, and_true]
      refine ⟨?_, ?_, ?_, ?_, ?_, ?_, ?_, ?_⟩
      all_goals
        intro a u hbu hsu hdu
        have h3 := h2.ext hbu
        have c0 := h3.cell 0
        have c1 := h3.cell 1
        have e9 : a.eval (.tmp 9) = .pointer (some ⟨w.heap.size, 0, none⟩) := hsu 9 (by decide)
        have hru := hr2.below hbu
        have hgu := hbu.size
        simp at hdu e9 c0 c1
        clear hsu
        simp [*, rowP]
        go_wp2_with (go_at_call 18; refine (clone _ _ _ hru (by omega)).mono ?_; rintro e w3 ⟨v3, rfl, ho3, hb3⟩)
      all_goals first | exact Below.refl _ _ | exact ⟨_, rfl, Row.mono ho3 (by omega)⟩ | exact ⟨_, rfl, Below.refl _ _, by assumption⟩ | exact ⟨_, rfl, Below.refl _ _, hdu⟩ | exact ⟨_, rfl, Below.refl _ _, hdu.1⟩ | trace_state
    · intro u hu
      simp [rowP]
      intro v1 h1 v2 h2
      go_wp2
      go_ret3
      rw [HN.out, HD.out]
      exact ⟨hb2.trans (hu.mono hge), _, rfl, h2⟩
theorem step (s ev : Int) (win : Bool) (w : World) : Calls Try.prog 8 #[.int .i64 s, .int .i64 ev, .bool win] w (StepPost w (nextF s ev win) (doF s ev win) (errF s ev)) := by
  by_cases h1 : s < 0
  · exact stepBad0 s ev win w h1
  by_cases h2 : 7 < s
  · exact stepBad1 s ev win w h2 h1
  by_cases h3 : ev < 1
  · exact stepBad2 s ev win w h3 h1 h2
  by_cases h4 : 12 < ev
  · exact stepBad3 s ev win w h4 h1 h2 h3
  have he : 1 ≤ ev ∧ ev ≤ 12 := by omega
  have hs : s = 0 ∨ s = 1 ∨ s = 2 ∨ s = 3 ∨ s = 4 ∨ s = 5 ∨ s = 6 ∨ s = 7 := by omega
  rcases hs with rfl | rfl | rfl | rfl | rfl | rfl | rfl | rfl
  · exact step0 ev win w he
  · exact step1 ev win w he
  · exact step2 ev win w he
  · exact step3 ev win w he
  · exact step4 ev win w he
  · exact step5 ev win w he
  · exact step6 ev win w he
  · exact step7 ev win w he
end Go.Proofs.Ytamemmbcdkhdhaa.Peer
