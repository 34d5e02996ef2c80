/-
  Contracts: the reference's Step, SameInts, answers.
-/
import Derived.Test.YtamemmbcdkhdhaaStep6
import Derived.Deep.QuietTactic
import Derived.BigQuiet
namespace Go.Proofs.Ytamemmbcdkhdhaa.Peer
open Go.RowKit Mem Cells
set_option linter.unusedVariables false
set_option linter.unusedSimpArgs false

/-- What the reference's step answers. -/
def RefPost (w : World) (n : Int) (xs : List Int) (er : Int) (e : Ending) (w' : World) : Prop :=
  Below w.heap.size w w' ∧ ∃ v, e = .returned (.tuple #[.int .i64 n, v, .int .i64 er]) ∧ Reads .i64 w' v xs
theorem reads_nil (w : World) : Reads .i64 w (.slice none 0 0) [] := ⟨none, 0, rfl, Nat.le_refl _, Nat.zero_le _, fun _ => rfl, fun h => absurd h (Nat.lt_irrefl _)⟩

theorem refBad0 (s ev : Int) (win : Bool) (w : World) (h : s < 0) : Calls Try.prog 9 #[.int .i64 s, .int .i64 ev, .bool win] w (RefPost w 0 [] 1) := by
  go_enter Try.func9, Try.ntmps9
  go_wp2
  go_ret3
  exact ⟨Below.refl _ _, _, rfl, reads_nil _⟩
theorem refBad1 (s ev : Int) (win : Bool) (w : World) (h : 7 < s) (h1 : ¬ s < 0) : Calls Try.prog 9 #[.int .i64 s, .int .i64 ev, .bool win] w (RefPost w 0 [] 1) := by
  go_enter Try.func9, Try.ntmps9
  go_wp2
  go_ret3
  exact ⟨Below.refl _ _, _, rfl, reads_nil _⟩
theorem refBad2 (s ev : Int) (win : Bool) (w : World) (h : ev < 1) (h1 : ¬ s < 0) (h2 : ¬ 7 < s) : Calls Try.prog 9 #[.int .i64 s, .int .i64 ev, .bool win] w (RefPost w 0 [] 1) := by
  go_enter Try.func9, Try.ntmps9
  go_wp2
  go_ret3
  exact ⟨Below.refl _ _, _, rfl, reads_nil _⟩
theorem refBad3 (s ev : Int) (win : Bool) (w : World) (h : 12 < ev) (h1 : ¬ s < 0) (h2 : ¬ 7 < s) (h3 : ¬ ev < 1) : Calls Try.prog 9 #[.int .i64 s, .int .i64 ev, .bool win] w (RefPost w 0 [] 1) := by
  go_enter Try.func9, Try.ntmps9
  go_wp2
  go_ret3
  exact ⟨Below.refl _ _, _, rfl, reads_nil _⟩

theorem find_at {p : TRow → Bool} {k : Nat} (hk : k < 35) (h : ∀ j, j < k → p (rowAt j) = false) (ht : p (rowAt k) = true) : rows.find? p = some (rowAt k) := by
  have h1 : rows = rows.take k ++ rows.drop k := (List.take_append_drop k rows).symm
  have h2 : rows.drop k = rowAt k :: rows.drop (k + 1) := by
    rw [List.drop_eq_getElem_cons (by rw [rows_len]; exact hk), ← rowAt_eq hk]
  rw [h1, List.find?_append, h2, List.find?_cons_of_pos ht, List.find?_eq_none.2 ?_]
  · rfl
  · intro r hr hp
    obtain ⟨i, hi, rfl⟩ := List.mem_iff_getElem.1 hr
    simp only [List.length_take, rows_len] at hi
    have := h i (by omega)
    rw [rowAt_eq (by omega)] at this
    rw [List.getElem_take] at hp
    rw [this] at hp
    cases hp
theorem find_no {p : TRow → Bool} (h : ∀ j, j < 35 → p (rowAt j) = false) : rows.find? p = none := by
  refine List.find?_eq_none.2 fun r hr hp => ?_
  obtain ⟨i, hi, rfl⟩ := List.mem_iff_getElem.1 hr
  rw [rows_len] at hi
  have := h i hi
  rw [rowAt_eq hi] at this
  rw [this] at hp
  cases hp

set_option maxRecDepth 100000 in
set_option maxHeartbeats 3200000 in
theorem refGood (s ev : Int) (win : Bool) (w : World) (hs : 0 ≤ s ∧ s ≤ 7) (he : 1 ≤ ev ∧ ev ≤ 12) : Calls Try.prog 9 #[.int .i64 s, .int .i64 ev, .bool win] w
    (RefPost w (nextF s ev win) (doF s ev win) 0) := by
  have HI := Lib.hid (show inR s ev = true from decide_eq_true ⟨hs, he⟩)
  have d1 : ¬ s < 0 := by omega
  have d2 : ¬ 7 < s := by omega
  have d3 : ¬ ev < 1 := by omega
  have d4 : ¬ 12 < ev := by omega
  go_enter Try.func9, Try.ntmps9
  go_wp2_with fail
  refine (rowsT w).mono ?_
  rintro e w1 ⟨rfl, ht1, hb1⟩
  have hge1 := hb1.size
  go_wp2_with fail
  go_loopw [10] (fun i wr => ∃ k : Nat, k ≤ 35 ∧ i = .int .i64 k ∧ (∀ j, j < k → hit s ev win (rowAt j) = false) ∧ Below w1.heap.size w1 wr) (fun i _ => 35 - (intOf i).toNat)
  case atStart => exact ⟨0, by omega, rfl, fun j h => absurd h (Nat.not_lt_zero _), Below.refl _ _⟩
  case round =>
    obtain ⟨k, hk, rfl, hno, hbr⟩ := hrel
    have htr := ht1.ext hbr
    have hbb := Frame.ext hb1 hbr
    have HNO := Lib.hid hno
    have HTR := Lib.hid htr
    clear hno htr
    by_cases hlt : k < 35
    · obtain ⟨g0, hall⟩ := HTR.out
      obtain ⟨c0, c1, c2, c3, _, _, c4, hlo, hrd⟩ := hall k hlt
      clear hall
      obtain ⟨ra, hra⟩ : ∃ ra, (rowAt k).1 = ra := ⟨_, rfl⟩
      obtain ⟨rb, hrb⟩ : ∃ rb, (rowAt k).2.1 = rb := ⟨_, rfl⟩
      obtain ⟨rc, hrc⟩ : ∃ rc, (rowAt k).2.2.1 = rc := ⟨_, rfl⟩
      obtain ⟨rd, hrd'⟩ : ∃ rd, (rowAt k).2.2.2.1 = rd := ⟨_, rfl⟩
      obtain ⟨rl, hrl⟩ : ∃ rl, (rowAt k).2.2.2.2 = rl := ⟨_, rfl⟩
      have HH := Lib.hid (show hit s ev win (rowAt k) = (ra == s && (rb == ev && (rc == 0 || (rc == 1) == win))) from by unfold hit; rw [hra, hrb, hrc])
      have HF := Lib.hid (show (rowAt k).2.2.2.1 = rd ∧ (rowAt k).2.2.2.2 = rl from ⟨hrd', hrl⟩)
      rw [hra] at c0
      rw [hrb] at c1
      rw [hrc] at c2
      rw [hrd'] at c3
      rw [hrl] at c4 hrd
      clear hra hrb hrc hrd' hrl
      have hnext : ∀ b, hit s ev win (rowAt k) = b → b = false → ∀ j, j < k + 1 → hit s ev win (rowAt j) = false := by
        intro b h1 h2 j hj
        rcases Nat.lt_or_ge j k with h | h
        · exact HNO.out j h
        · obtain rfl : j = k := by omega
          rw [h1, h2]
      have HNX := Lib.hid hnext
      clear hnext
      have cs : ((ra == s) = false) ∨ ((ra == s) = true ∧ (rb == ev) = false) ∨ ((ra == s) = true ∧ (rb == ev) = true ∧ (rc == 0) = true) ∨ ((ra == s) = true ∧ (rb == ev) = true ∧ (rc == 0) = false ∧ ((rc == 1) == win) = true) ∨ ((ra == s) = true ∧ (rb == ev) = true ∧ (rc == 0) = false ∧ ((rc == 1) == win) = false) := by
        cases (ra == s) <;> cases (rb == ev) <;> cases (rc == 0) <;> cases ((rc == 1) == win) <;> simp
      rcases cs with t1 | ⟨t1, t2⟩ | ⟨t1, t2, t3⟩ | ⟨t1, t2, t3, t4⟩ | ⟨t1, t2, t3, t4⟩
      · have HX := Lib.hid (HNX.out _ HH.out (by rw [t1]; rfl))
        go_wp2_with fail
        exact ⟨⟨k + 1, by omega, by go_num, HX.out, hbr.alloc hbr.size _⟩, by simp [intOf]; omega⟩
      · have HX := Lib.hid (HNX.out _ HH.out (by rw [t1, t2]; rfl))
        go_wp2_with fail
        exact ⟨⟨k + 1, by omega, by go_num, HX.out, hbr.alloc hbr.size _⟩, by simp [intOf]; omega⟩
      · have HX := Lib.hid (show hit s ev win (rowAt k) = true from by rw [HH.out, t1, t2, t3]; rfl)
        have HST := Lib.hid (show stepF s ev win = some (rd, rl) from by unfold stepF; rw [find_at hlt HNO.out HX.out]; rw [← HF.out.1, ← HF.out.2]; rfl)
        have HN := Lib.hid (show nextF s ev win = rd from by unfold nextF; rw [HI.out, HST.out]; rfl)
        have HD := Lib.hid (show doF s ev win = rl from by unfold doF; rw [HI.out, HST.out]; rfl)
        go_wp2_with fail
        go_region
        go_wp2
        go_ret3
        rw [HN.out, HD.out]
        exact ⟨(hbb.alloc hbb.size _).drew, _, rfl, hrd.below (((Below.refl _ _).alloc (Nat.le_refl _) _).drew)⟩
      · have HX := Lib.hid (show hit s ev win (rowAt k) = true from by rw [HH.out, t1, t2, t3, t4]; rfl)
        have HST := Lib.hid (show stepF s ev win = some (rd, rl) from by unfold stepF; rw [find_at hlt HNO.out HX.out]; rw [← HF.out.1, ← HF.out.2]; rfl)
        have HN := Lib.hid (show nextF s ev win = rd from by unfold nextF; rw [HI.out, HST.out]; rfl)
        have HD := Lib.hid (show doF s ev win = rl from by unfold doF; rw [HI.out, HST.out]; rfl)
        go_wp2_with fail
        go_region
        go_wp2
        go_ret3
        rw [HN.out, HD.out]
        exact ⟨(hbb.alloc hbb.size _).drew, _, rfl, hrd.below (((Below.refl _ _).alloc (Nat.le_refl _) _).drew)⟩
      · have HX := Lib.hid (HNX.out _ HH.out (by rw [t1, t2, t3, t4]; rfl))
        go_wp2_with fail
        exact ⟨⟨k + 1, by omega, by go_num, HX.out, hbr.alloc hbr.size _⟩, by simp [intOf]; omega⟩
    · obtain rfl : k = 35 := by omega
      have HST := Lib.hid (show stepF s ev win = none from by unfold stepF; rw [find_no HNO.out]; rfl)
      have HN := Lib.hid (show nextF s ev win = s from by unfold nextF; rw [HI.out, HST.out]; rfl)
      have HD := Lib.hid (show doF s ev win = [] from by unfold doF; rw [HI.out, HST.out]; rfl)
      go_wp2
      go_ret3
      rw [HN.out, HD.out]
      exact ⟨hbb, _, rfl, reads_nil _⟩

theorem refStep (s ev : Int) (win : Bool) (w : World) : Calls Try.prog 9 #[.int .i64 s, .int .i64 ev, .bool win] w (RefPost w (nextF s ev win) (doF s ev win) (errF s ev)) := by
  by_cases hi : inR s ev = true
  · rw [show errF s ev = 0 from by unfold errF; rw [hi]; rfl]
    have := of_decide_eq_true hi
    exact refGood s ev win w this.1 this.2
  · have hi' : inR s ev = false := by simpa using hi
    rw [show nextF s ev win = 0 from by unfold nextF; rw [hi']; rfl, show doF s ev win = [] from by unfold doF; rw [hi']; rfl, show errF s ev = 1 from by unfold errF; rw [hi']; rfl]
    have hn := of_decide_eq_false hi'
    by_cases h1 : s < 0
    · exact refBad0 s ev win w h1
    by_cases h2 : 7 < s
    · exact refBad1 s ev win w h2 h1
    by_cases h3 : ev < 1
    · exact refBad2 s ev win w h3 h1 h2
    exact refBad3 s ev win w (by omega) h1 h2 h3

set_option maxRecDepth 100000 in
set_option maxHeartbeats 1600000 in
theorem same (v v' : Value) (xs : List Int) (w : World) (hr : Reads .i64 w v xs) (hr' : Reads .i64 w v' xs) (hl : xs.length ≤ 1000) :
    Calls Try.prog 11 #[v, v'] w fun e w' => e = .returned (.bool true) ∧ Below w.heap.size w w' := by
  obtain ⟨p, c, rfl, h1, h2, h3, h4⟩ := hr
  obtain ⟨p', c', rfl, h1', h2', h3', h4'⟩ := hr'
  have H4 := Lib.hid h4
  have H4' := Lib.hid h4'
  clear h4 h4' h3 h3'
  go_enter Try.func11, Try.ntmps11
  go_wp2_with fail
  go_loopw [5] (fun i wr => ∃ k : Nat, k ≤ xs.length ∧ i = .int .i64 k ∧ Below w.heap.size w wr) (fun i _ => xs.length - (intOf i).toNat)
  case atStart => exact ⟨0, by omega, rfl, Below.refl _ _⟩
  case round =>
    obtain ⟨k, hk, rfl, hbr⟩ := hrel
    by_cases hlt : k < xs.length
    · obtain ⟨b, off, rfl, hb, hc⟩ := H4.out (by omega)
      obtain ⟨b', off', rfl, hb', hc'⟩ := H4'.out (by omega)
      have g1 := (hbr.cell (p := ⟨b, off + k, none⟩) hb).trans (hc k hlt)
      have g2 := (hbr.cell (p := ⟨b', off' + k, none⟩) hb').trans (hc' k hlt)
      clear hc hc'
      generalize xs.getD k 0 = x at g1 g2
      have q1 : (k : Int) < (xs.length : Int) := by omega
      go_wp2_with fail
      go_quiet (fail)
      go_wp2
      exact ⟨⟨k + 1, by omega, by go_num, ⟨hbr.os, hbr.tape, hbr.output, hbr.size, hbr.block⟩⟩, by simp [intOf]; omega⟩
    · obtain rfl : k = xs.length := by omega
      go_wp2
      go_ret
      exact ⟨rfl, hbr⟩
end Go.Proofs.Ytamemmbcdkhdhaa.Peer
