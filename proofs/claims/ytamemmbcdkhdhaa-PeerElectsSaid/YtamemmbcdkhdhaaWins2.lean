/-
  Contracts: strings.Compare, peer.Wins, the reference's low and Wins.
-/
import Derived.Test.YtamemmbcdkhdhaaWins1
import Derived.Test.YtamemmbcdkhdhaaLaws1
namespace Go.Proofs.Ytamemmbcdkhdhaa.Peer
open Go.RowKit Mem Cells
open Go.Extern.BytealgCompare (cmp)
set_option linter.unusedVariables false
set_option linter.unusedSimpArgs false

theorem kcmp (a b : ByteArray) (w : World) : (callFunc 26 #[.string a, .string b]).run Try.prog w = .ok (.value (.int .i64 (cmp a b))) w := by kernel_rfl
theorem compareS (a b : ByteArray) (w : World) : Calls Try.prog 20 #[.string a, .string b] w fun e w' => e = .returned (.int .i64 (cmp a b)) ∧ w' = w := by
  have k := kcmp a b
  generalize cmp a b = n at k
  have c25 : ∀ w, Calls Try.prog 25 #[.string a, .string b] w fun e w' => e = .returned (.int .i64 n) ∧ w' = w := by
    intro w
    go_enter Try.func25, Try.ntmps25
    go_wp2_with fail
    go_ret
    exact ⟨rfl, rfl⟩
  have C := Lib.hid c25
  clear c25 k
  go_enter Try.func20, Try.ntmps20
  go_wp2_with fail
  refine (C.out _).mono ?_
  rintro e w1 ⟨rfl, rfl⟩
  go_wp2_with fail
  go_ret
  exact ⟨rfl, rfl⟩
def winB (a b : ByteArray) : Bool := decide (0 < cmp (lowS a) (lowS b))
theorem wins (a b : ByteArray) (w : World) (ha : a.size ≤ 9223372036854775807) (hb : b.size ≤ 9223372036854775807) : Calls Try.prog 12 #[.string a, .string b] w fun e w' => e = .returned (.bool (winB a b)) ∧ Below w.heap.size w w' := by
  have HA := Lib.hid ha
  have HB := Lib.hid hb
  clear ha hb
  have HW := Lib.hid (show winB a b = decide (0 < cmp (lowS a) (lowS b)) from rfl)
  go_enter Try.func12, Try.ntmps12
  go_wp2_with fail
  refine (small a _ HA.out).mono ?_
  rintro e w1 ⟨rfl, b1⟩
  go_wp2_with fail
  refine (small b _ HB.out).mono ?_
  rintro e w2 ⟨rfl, b2⟩
  have hb2 := Frame.ext b1 b2
  clear b1 b2
  go_wp2_with fail
  refine (compareS _ _ _).mono ?_
  rintro e w3 ⟨rfl, rfl⟩
  generalize cmp (lowS a) (lowS b) = n at HW
  go_wp2_with fail
  go_ret
  rw [HW.out]
  exact ⟨rfl, hb2⟩
theorem low (x : Int) (w : World) (hx : 0 ≤ x ∧ x ≤ 255) : Calls Try.prog 22 #[.int .u8 x] w fun e w' => e = .returned (.int .u8 (lowI x)) ∧ w' = w := by
  unfold lowI
  by_cases h1 : 65 ≤ x
  · by_cases h2 : x ≤ 90
    · rw [if_pos ⟨h1, h2⟩]
      go_enter Try.func22, Try.ntmps22
      go_wp2_with fail
      go_ret
      exact ⟨rfl, rfl⟩
    · rw [if_neg (by omega)]
      go_enter Try.func22, Try.ntmps22
      go_wp2_with fail
      go_ret
      exact ⟨rfl, rfl⟩
  · rw [if_neg (by omega)]
    go_enter Try.func22, Try.ntmps22
    go_wp2_with fail
    go_ret
    exact ⟨rfl, rfl⟩

theorem byteAt_eq (s : ByteArray) (k : Nat) (h : k < s.size) : byteAt s k = (s[k].toNat : Int) := by
  unfold byteAt
  rw [List.getD_eq_getElem?_getD, List.getElem?_eq_getElem (by simpa using h)]
  rfl
/-- What the reference's Wins answers, by the first place where two names part. -/
def RW (a b : ByteArray) (r : Bool) : Prop :=
  (∃ i, i < a.size ∧ i < b.size ∧ (∀ j, j < i → lowI (byteAt a j) = lowI (byteAt b j)) ∧ lowI (byteAt a i) ≠ lowI (byteAt b i) ∧ r = decide (lowI (byteAt b i) < lowI (byteAt a i))) ∨
  ((∀ j, j < a.size → j < b.size → lowI (byteAt a j) = lowI (byteAt b j)) ∧ r = decide (b.size < a.size))
def RWPost (a b : ByteArray) (w : World) (e : Ending) (w' : World) : Prop := ∃ r, e = .returned (.bool r) ∧ RW a b r ∧ w' = w
set_option maxHeartbeats 800000 in
theorem refWins (a b : ByteArray) (w : World) (ha : a.size ≤ 9223372036854775807) (hb : b.size ≤ 9223372036854775807) : Calls Try.prog 13 #[.string a, .string b] w (RWPost a b w) := by
  go_enter Try.func13, Try.ntmps13
  go_wp2_with fail
  go_loop [5] (fun i => ∃ k : Nat, k ≤ a.size ∧ k ≤ b.size ∧ i = .int .i64 k ∧ ∀ j, j < k → lowI (byteAt a j) = lowI (byteAt b j)) (fun i => a.size - (intOf i).toNat)
  case atStart => exact ⟨0, by omega, by omega, rfl, fun j h => absurd h (Nat.not_lt_zero _)⟩
  case round =>
    obtain ⟨k, hk, hk2, rfl, hno⟩ := hrel
    have HNO := Lib.hid hno
    clear hno
    by_cases hlt : k < a.size
    · by_cases hlt2 : k < b.size
      · have e1 := byteAt_eq a k hlt
        have e2 := byteAt_eq b k hlt2
        have d1 := byteAt_bd a k
        have d2 := byteAt_bd b k
        rw [e1] at d1
        rw [e2] at d2
        have E := Lib.hid (And.intro e1 e2)
        clear e1 e2
        go_wp2_with fail
        refine (low _ _ d1).mono ?_
        rintro e w1 ⟨rfl, rfl⟩
        go_wp2_with fail
        refine (low _ _ d2).mono ?_
        rintro e w1 ⟨rfl, rfl⟩
        rw [← E.out.1, ← E.out.2]
        generalize hx : lowI (byteAt a k) = x
        generalize hy : lowI (byteAt b k) = y
        have HX := Lib.hid (And.intro hx hy)
        clear hx hy d1 d2
        by_cases he : x = y
        · subst he
          go_wp2_with fail
          refine ⟨⟨k + 1, by omega, by omega, by go_num, fun j hj => ?_⟩, by simp [intOf]; omega⟩
          rcases Nat.lt_or_ge j k with h | h
          · exact HNO.out j h
          · obtain rfl : j = k := by omega
            rw [HX.out.1, HX.out.2]
        · have he' : (x == y) = false := by simp [he]
          have HE := Lib.hid he
          clear he
          go_wp2_with fail
          go_ret
          exact ⟨_, rfl, .inl ⟨k, hlt, hlt2, HNO.out, by rw [HX.out.1, HX.out.2]; exact HE.out, by rw [HX.out.1, HX.out.2]⟩, rfl⟩
      · obtain rfl : k = b.size := by omega
        go_wp2_with fail
        go_ret
        exact ⟨_, rfl, .inr ⟨fun j _ h => HNO.out j h, by first | rfl | (simp; done) | (simp; omega)⟩, rfl⟩
    · obtain rfl : k = a.size := by omega
      go_wp2_with fail
      go_ret
      exact ⟨_, rfl, .inr ⟨fun j h _ => HNO.out j h, by first | rfl | (simp; done) | (simp; omega)⟩, rfl⟩

theorem size_low (s : ByteArray) : (lowS s).size = s.size := by
  show (strOfNums (lowL s)).data.size = s.size
  rw [← Array.length_toList, strOfNums_data]
  simp [lowL]
theorem get_low (s : ByteArray) (i : Nat) (h : i < s.size) : ((lowS s)[i]!.toNat : Int) = lowI (byteAt s i) := by
  have hs : i < (lowS s).size := by rw [size_low]; exact h
  have hb := lowI_bd (byteAt_bd s i)
  rw [getElem!_pos (lowS s) i hs]
  have hd : i < (lowS s).data.size := hs
  have : (lowS s)[i] = (lowS s).data[i]'hd := rfl
  rw [this]
  have key : ∀ (l : List Int) (h : i < (strOfNums l).data.size) (h2 : i < l.length), (strOfNums l).data[i] = UInt8.ofNat (l[i]).toNat := by
    intro l h h2
    have e : (strOfNums l).data.toList = l.map (fun n => UInt8.ofNat n.toNat) := strOfNums_data l
    have : (strOfNums l).data[i] = (strOfNums l).data.toList[i]'(by simpa using h) := by simp
    rw [this]
    simp [e]
  have hl : i < (lowL s).length := by simpa [lowL] using h
  have hk : (lowS s).data[i] = UInt8.ofNat ((lowL s)[i]).toNat := key (lowL s) hd hl
  rw [hk]
  have e2 : (lowL s)[i] = lowI (byteAt s i) := by simp [lowL]
  rw [e2]
  have : (lowI (byteAt s i)).toNat < 256 := by omega
  simp only [UInt8.toNat_ofNat']
  omega
theorem cmp_diff (a b : ByteArray) (i : Nat) (ha : i < a.size) (hb : i < b.size) (hj : ∀ j, j < i → lowI (byteAt a j) = lowI (byteAt b j)) (hn : lowI (byteAt a i) ≠ lowI (byteAt b i)) :
    cmp (lowS a) (lowS b) = if lowI (byteAt a i) < lowI (byteAt b i) then -1 else 1 := by
  unfold cmp
  have hf : (List.range (min (lowS a).size (lowS b).size)).find? (fun i => (lowS a)[i]! != (lowS b)[i]!) = some i := by
    rw [List.find?_range_eq_some]
    refine ⟨?_, by rw [List.mem_range, size_low, size_low]; omega, fun j hji => ?_⟩
    · simp only [bne_iff_ne, ne_eq]
      intro e
      apply hn
      rw [← get_low a i ha, ← get_low b i hb, e]
    · have e : (lowS a)[j]! = (lowS b)[j]! := by
        have h1 := get_low a j (by omega)
        have h2 := get_low b j (by omega)
        rw [hj j hji, ← h2] at h1
        exact UInt8.toNat_inj.1 (by omega)
      simp [e]
  rw [hf]
  simp only
  have hlt : ((lowS a)[i]! < (lowS b)[i]!) ↔ lowI (byteAt a i) < lowI (byteAt b i) := by
    rw [UInt8.lt_iff_toNat_lt, ← get_low a i ha, ← get_low b i hb]
    omega
  by_cases h : lowI (byteAt a i) < lowI (byteAt b i)
  · rw [if_pos (hlt.2 h), if_pos h]
  · rw [if_neg (fun h' => h (hlt.1 h')), if_neg h]
theorem cmp_same (a b : ByteArray) (hj : ∀ j, j < a.size → j < b.size → lowI (byteAt a j) = lowI (byteAt b j)) :
    cmp (lowS a) (lowS b) = if a.size < b.size then -1 else if a.size > b.size then 1 else 0 := by
  unfold cmp
  have hf : (List.range (min (lowS a).size (lowS b).size)).find? (fun i => (lowS a)[i]! != (lowS b)[i]!) = none := by
    rw [List.find?_range_eq_none]
    intro j hjm
    rw [size_low, size_low] at hjm
    have e : (lowS a)[j]! = (lowS b)[j]! := by
      have h1 := get_low a j (by omega)
      have h2 := get_low b j (by omega)
      rw [hj j (by omega) (by omega), ← h2] at h1
      exact UInt8.toNat_inj.1 (by omega)
    simp [e]
  rw [hf]
  simp only [size_low]
theorem rw_win {a b : ByteArray} {r : Bool} (h : RW a b r) : r = winB a b := by
  unfold winB
  rcases h with ⟨i, ha, hb, hj, hn, rfl⟩ | ⟨hj, rfl⟩
  · rw [cmp_diff a b i ha hb hj hn]
    apply decide_eq_decide.2
    split <;> omega
  · rw [cmp_same a b hj]
    apply decide_eq_decide.2
    (repeat' split) <;> omega
theorem first_diff (a b : ByteArray) : (∃ i, i < a.size ∧ i < b.size ∧ (∀ j, j < i → lowI (byteAt a j) = lowI (byteAt b j)) ∧ lowI (byteAt a i) ≠ lowI (byteAt b i)) ∨ ∀ j, j < a.size → j < b.size → lowI (byteAt a j) = lowI (byteAt b j) := by
  have key : ∀ n, (∃ i, i < a.size ∧ i < b.size ∧ (∀ j, j < i → lowI (byteAt a j) = lowI (byteAt b j)) ∧ lowI (byteAt a i) ≠ lowI (byteAt b i)) ∨ ∀ j, j < n → j < a.size → j < b.size → lowI (byteAt a j) = lowI (byteAt b j) := by
    intro n
    induction n with
    | zero => exact .inr fun j h => absurd h (Nat.not_lt_zero _)
    | succ n ih =>
      rcases ih with h | h
      · exact .inl h
      · by_cases hn : n < a.size ∧ n < b.size ∧ lowI (byteAt a n) ≠ lowI (byteAt b n)
        · exact .inl ⟨n, hn.1, hn.2.1, fun j hj => h j hj (by omega) (by omega), hn.2.2⟩
        · refine .inr fun j hj h1 h2 => ?_
          rcases Nat.lt_or_ge j n with h3 | h3
          · exact h j h3 h1 h2
          · obtain rfl : j = n := by omega
            exact Classical.byContradiction fun h4 => hn ⟨h1, h2, h4⟩
  rcases key a.size with h | h
  · exact .inl h
  · exact .inr fun j h1 h2 => h j h1 h1 h2
theorem win_anti (a b : ByteArray) : (winB a b && winB b a) = false := by
  unfold winB
  rcases first_diff a b with ⟨i, ha, hb, hj, hn⟩ | hj
  · rw [cmp_diff a b i ha hb hj hn, cmp_diff b a i hb ha (fun j h => (hj j h).symm) (Ne.symm hn)]
    simp only [Bool.and_eq_false_iff, decide_eq_false_iff_not]
    (repeat' split) <;> omega
  · rw [cmp_same a b hj, cmp_same b a (fun j h1 h2 => (hj j h2 h1).symm)]
    simp only [Bool.and_eq_false_iff, decide_eq_false_iff_not]
    (repeat' split) <;> omega
theorem win_self (a : ByteArray) : winB a a = false := by
  have := win_anti a a
  simpa using this

set_option maxRecDepth 100000 in
set_option maxHeartbeats 1600000 in
theorem winsL (a b : ByteArray) (w : World) (ha : a.size ≤ 9223372036854775807) (hb : b.size ≤ 9223372036854775807) : Calls Try.prog 6 #[.string a, .string b] w fun e w' => e = .returned (.bool true) ∧ Below w.heap.size w w' := by
  have HA := Lib.hid ha
  have HB := Lib.hid hb
  obtain ⟨x, hx⟩ : ∃ x, winB a b = x := ⟨_, rfl⟩
  obtain ⟨y, hy⟩ : ∃ y, winB b a = y := ⟨_, rfl⟩
  have hxy := win_anti a b
  rw [hx, hy] at hxy
  have P1 := Lib.hid (fun w => by have := wins a b w ha hb; rwa [hx] at this)
  have P2 := Lib.hid (fun w => by have := wins b a w hb ha; rwa [hy] at this)
  have P3 := Lib.hid (fun w => by have := wins a a w ha ha; rwa [win_self] at this)
  have R1 := Lib.hid (fun w => (refWins a b w ha hb).mono fun e w' ⟨r, he, hr, hw⟩ => (⟨by rw [he, rw_win hr, hx], hw⟩ : e = Ending.returned (.bool x) ∧ w' = w))
  have R2 := Lib.hid (fun w => (refWins b a w hb ha).mono fun e w' ⟨r, he, hr, hw⟩ => (⟨by rw [he, rw_win hr, hy], hw⟩ : e = Ending.returned (.bool y) ∧ w' = w))
  clear hx hy ha hb
  cases x <;> cases y
  case true.true => simp at hxy
  all_goals
    clear hxy
    go_enter Try.func6, Try.ntmps6
    go_wp2_with fail
    refine (P1.out _).mono ?_
    rintro e w1 ⟨rfl, b1⟩
    go_wp2_with fail
    refine (P2.out _).mono ?_
    rintro e w2 ⟨rfl, b2⟩
    have hb2 := Frame.ext b1 b2
    clear b1 b2
    go_wp2_with fail
    refine (answers _).mono ?_
    rintro e w3 ⟨rfl, b3⟩
    have hb3 := Frame.ext hb2 b3
    clear hb2 b3
    go_wp2_with fail
    refine (R1.out _).mono ?_
    rintro e w4 ⟨rfl, rfl⟩
    go_wp2_with fail
    refine (R2.out _).mono ?_
    rintro e w5 ⟨rfl, rfl⟩
    go_wp2_with fail
    refine (P3.out _).mono ?_
    rintro e w6 ⟨rfl, b6⟩
    have hb6 := Frame.ext hb3 b6
    go_wp2_with fail
    go_ret
    exact ⟨rfl, hb6⟩
end Go.Proofs.Ytamemmbcdkhdhaa.Peer
