/-
  Contracts: the reference's UTF8 and Name.
-/
import Derived.Test.YtjfmahodbdianaaDoorFits
import Derived.Deep.Cut
import Derived.Deep.CutBlock
import Derived.Deep.DeepCutAuto
import Derived.Deep.DeepMust
namespace Go.Proofs.YtjfmahodbdianaaDoor.Utf
open Go.RowKit Mem Cells Ops
set_option linter.unusedVariables false
set_option linter.unusedSimpArgs false
set_option maxRecDepth 100000 in
theorem cls2 : ∀ c : Fin 256, 194 ≤ c.val → c.val ≤ 223 → Lib.firstT c.val % 8 = 2 ∧ Lib.accLo (Lib.firstT c.val / 16) = 128 ∧ Lib.accHi (Lib.firstT c.val / 16) = 191 := by decide
set_option maxRecDepth 100000 in
theorem cls3 : ∀ c : Fin 256, 224 ≤ c.val → c.val ≤ 239 → Lib.firstT c.val % 8 = 3 ∧ Lib.accLo (Lib.firstT c.val / 16) = (if c.val = 224 then 160 else 128) ∧ Lib.accHi (Lib.firstT c.val / 16) = (if c.val = 237 then 159 else 191) := by decide
set_option maxRecDepth 100000 in
theorem cls4 : ∀ c : Fin 256, 240 ≤ c.val → c.val ≤ 244 → Lib.firstT c.val % 8 = 4 ∧ Lib.accLo (Lib.firstT c.val / 16) = (if c.val = 240 then 144 else 128) ∧ Lib.accHi (Lib.firstT c.val / 16) = (if c.val = 244 then 143 else 191) := by decide
set_option maxRecDepth 100000 in
theorem cls0 : ∀ c : Fin 256, 128 ≤ c.val → (c.val < 194 ∨ 244 < c.val) → Lib.firstT c.val % 8 ≠ 2 ∧ Lib.firstT c.val % 8 ≠ 3 ∧ Lib.firstT c.val % 8 ≠ 4 := by decide
/-- Of which kind the first byte is: how many bytes, and the second one's limits. -/
def Cls (c : Int) (n : Nat) (lo hi : Int) : Prop := 128 ≤ c ∧ c ≤ 255 ∧ (n = 2 ∨ n = 3 ∨ n = 4) ∧ fN c % 8 = n ∧ loN c = lo ∧ hiN c = hi
def goodAt (xs : List Int) (lo hi : Int) (j : Nat) : Prop := (if j = 1 then lo else 128) ≤ at_ xs j ∧ at_ xs j ≤ (if j = 1 then hi else 191)
theorem step_good {xs : List Int} {n : Nat} {lo hi : Int} (hc : Cls (at_ xs 0) n lo hi) (hl : n ≤ xs.length) (hg : ∀ j, 1 ≤ j → j < n → goodAt xs lo hi j) : stepV xs = n := by
  obtain ⟨h1, h2, h3, h4, h5, h6⟩ := hc
  unfold stepV
  simp only
  rw [h4, h5, h6, if_neg (by omega)]
  have g1 := hg 1 (by omega) (by omega)
  unfold goodAt at g1
  simp at g1
  rcases h3 with rfl | rfl | rfl
  · rw [if_pos rfl, if_neg (by omega)]
  · have g2 := hg 2 (by omega) (by omega)
    unfold goodAt at g2
    simp at g2
    rw [if_neg (by omega), if_pos rfl, if_neg (by unfold badB; omega)]
  · have g2 := hg 2 (by omega) (by omega)
    have g3 := hg 3 (by omega) (by omega)
    unfold goodAt at g2 g3
    simp at g2 g3
    rw [if_neg (by omega), if_neg (by omega), if_pos rfl, if_neg (by unfold badB; omega)]
theorem step_short {xs : List Int} {n : Nat} {lo hi : Int} (hc : Cls (at_ xs 0) n lo hi) (hl : xs.length < n) : stepV xs = 0 := by
  obtain ⟨h1, h2, h3, h4, h5, h6⟩ := hc
  unfold stepV
  simp only
  rw [h4, h5, h6, if_neg (by omega)]
  rcases h3 with rfl | rfl | rfl
  · rw [if_pos rfl, if_pos (by omega)]
  · rw [if_neg (by omega), if_pos rfl, if_pos (by omega)]
  · rw [if_neg (by omega), if_neg (by omega), if_pos rfl, if_pos (by omega)]
theorem step_bad {xs : List Int} {n : Nat} {lo hi : Int} (hc : Cls (at_ xs 0) n lo hi) (j : Nat) (h1j : 1 ≤ j) (hj : j < n) (hg : ¬ goodAt xs lo hi j) : stepV xs = 0 := by
  obtain ⟨h1, h2, h3, h4, h5, h6⟩ := hc
  unfold stepV
  simp only
  rw [h4, h5, h6, if_neg (by omega)]
  unfold goodAt at hg
  have hjj : j = 1 ∨ j = 2 ∨ j = 3 := by omega
  rcases h3 with rfl | rfl | rfl
  · obtain rfl : j = 1 := by omega
    simp at hg
    rw [if_pos rfl, if_pos (by omega)]
  · rw [if_neg (by omega), if_pos rfl]
    rcases hjj with rfl | rfl | rfl
    · simp at hg; rw [if_pos (by omega)]
    · simp at hg; rw [if_pos (by unfold badB; omega)]
    · omega
  · rw [if_neg (by omega), if_neg (by omega), if_pos rfl]
    rcases hjj with rfl | rfl | rfl
    · simp at hg; rw [if_pos (by omega)]
    · simp at hg; rw [if_pos (by unfold badB; omega)]
    · simp at hg; rw [if_pos (by unfold badB; omega)]
theorem step_none {xs : List Int} (h1 : 128 ≤ at_ xs 0) (h2 : at_ xs 0 ≤ 255) (h3 : at_ xs 0 < 194 ∨ 244 < at_ xs 0) : stepV xs = 0 := by
  obtain ⟨c, hc⟩ : ∃ c : Fin 256, at_ xs 0 = (c.val : Int) := ⟨⟨(at_ xs 0).toNat, by omega⟩, by show _ = (((at_ xs 0).toNat : Nat) : Int); omega⟩
  have := cls0 c (by omega) (by omega)
  have e : fN (at_ xs 0) = Lib.firstT c.val := by unfold fN; rw [hc, Int.toNat_natCast]
  unfold stepV
  simp only
  rw [e, if_neg (by omega), if_neg this.1, if_neg this.2.1, if_neg this.2.2]
theorem cls_of (c : Int) (n : Nat) (lo hi : Int) (h : (194 ≤ c ∧ c ≤ 223 ∧ n = 2 ∧ lo = 128 ∧ hi = 191) ∨ (224 ≤ c ∧ c ≤ 239 ∧ n = 3 ∧ lo = (if c = 224 then 160 else 128) ∧ hi = (if c = 237 then 159 else 191)) ∨ (240 ≤ c ∧ c ≤ 244 ∧ n = 4 ∧ lo = (if c = 240 then 144 else 128) ∧ hi = (if c = 244 then 143 else 191))) : Cls c n lo hi := by
  obtain ⟨d, hd⟩ : ∃ d : Fin 256, c = (d.val : Int) := ⟨⟨c.toNat, by omega⟩, by show c = ((c.toNat : Nat) : Int); omega⟩
  have e : fN c = Lib.firstT d.val := by unfold fN; rw [hd, Int.toNat_natCast]
  unfold Cls loN hiN
  rw [e]
  rcases h with ⟨h1, h2, rfl, rfl, rfl⟩ | ⟨h1, h2, rfl, h4, h5⟩ | ⟨h1, h2, rfl, h4, h5⟩
  · obtain ⟨a, b, c'⟩ := cls2 d (by omega) (by omega)
    rw [a, b, c']
    exact ⟨by omega, by omega, by omega, rfl, rfl, rfl⟩
  · obtain ⟨a, b, c'⟩ := cls3 d (by omega) (by omega)
    rw [a, b, c', h4, h5]
    refine ⟨by omega, by omega, by omega, rfl, ?_, ?_⟩
    · by_cases q : d.val = 224
      · rw [if_pos q, if_pos (by omega)]; rfl
      · rw [if_neg q, if_neg (by omega)]; rfl
    · by_cases q : d.val = 237
      · rw [if_pos q, if_pos (by omega)]; rfl
      · rw [if_neg q, if_neg (by omega)]; rfl
  · obtain ⟨a, b, c'⟩ := cls4 d (by omega) (by omega)
    rw [a, b, c', h4, h5]
    refine ⟨by omega, by omega, by omega, rfl, ?_, ?_⟩
    · by_cases q : d.val = 240
      · rw [if_pos q, if_pos (by omega)]; rfl
      · rw [if_neg q, if_neg (by omega)]; rfl
    · by_cases q : d.val = 244
      · rw [if_pos q, if_pos (by omega)]; rfl
      · rw [if_neg q, if_neg (by omega)]; rfl
/-- How the first byte stands: below 128, or the head of more. -/
def Kd (c : Int) (n : Nat) (lo hi : Int) : Prop := (c < 128 ∧ n = 1) ∨ Cls c n lo hi
theorem at_drop (xs : List Int) (i j : Nat) : at_ (xs.drop i) j = xs.getD (i + j) 0 := by simp [at_, List.getD_eq_getElem?_getD]
set_option maxRecDepth 100000 in
set_option maxHeartbeats 6400000 in
theorem refUtf8 (v : Value) (xs : List Int) (w : World) (hr : Reads .u8 w v xs) (hx : ∀ x ∈ xs, 0 ≤ x ∧ x ≤ 255) : Calls Tryd.prog 27 #[v] w fun e w' => e = .returned (.bool (v8 xs)) ∧ w' = w := by
  obtain ⟨p, c, rfl, q1, q2, q3, q4⟩ := hr
  obtain ⟨m, hm⟩ : ∃ m, xs.length = m := ⟨_, rfl⟩
  have HM := Lib.hid hm
  have hmm : m ≤ 9223372036854775807 := by unfold maxLen at q2; omega
  obtain ⟨res, hres⟩ : ∃ r, v8 xs = r := ⟨_, rfl⟩
  have HRES := Lib.hid hres
  have HX := Lib.hid hx
  have HC := Lib.hid q4
  rw [hm, hres]
  clear q1 q2 q3 q4 hm hres hx
  go_enter Tryd.func27, Tryd.ntmps27
  go_wp2_with fail
  go_loopw [3] (fun u wr => ∃ i : Nat, u = .int .i64 i ∧ i ≤ m ∧ Hid (v8 (xs.drop i) = res) ∧ wr = w) (fun u _ => m - (intOf u).toNat)
  case atStart => exact ⟨0, rfl, by omega, Lib.hid (by simpa using HRES.out), rfl⟩
  case round =>
    obtain ⟨i, rfl, him, HY, rfl⟩ := hrel
    by_cases hlt : i < m
    · obtain ⟨b, off, hp, hltb, hcells⟩ := HC.out (by rw [HM.out]; omega)
      subst hp
      rw [HM.out] at hcells
      have HCC := Lib.hid hcells
      have c0 := hcells i hlt
      obtain ⟨x0, hx0⟩ : ∃ x0, xs.getD i 0 = x0 := ⟨_, rfl⟩
      rw [hx0] at c0
      have hb0 : 0 ≤ x0 ∧ x0 ≤ 255 := by rw [← hx0]; exact HX.out _ (by rw [List.getD_eq_getElem?_getD, List.getElem?_eq_getElem (by rw [HM.out]; exact hlt)]; exact List.getElem_mem _)
      obtain ⟨ba, bb⟩ := hb0
      have HX0 := Lib.hid (show at_ (xs.drop i) 0 = x0 by rw [at_drop]; exact hx0)
      have HNE := Lib.hid (show xs.drop i ≠ [] from fun e => by have := congrArg List.length e; rw [List.length_drop, HM.out] at this; simp at this; omega)
      have HLD := Lib.hid (show (xs.drop i).length = m - i by rw [List.length_drop, HM.out])
      clear hx0 hcells hltb
      go_upto_if 18 with fail
      go_cut [5, 6, 7] from 9 to 68 (fun n a b wx => ∃ (k : Nat) (lo hi : Int), n = .int .i64 k ∧ a = .int .u8 lo ∧ b = .int .u8 hi ∧ Hid (Kd x0 k lo hi) ∧ 1 ≤ k ∧ k ≤ 4 ∧ 0 ≤ lo ∧ lo ≤ 255 ∧ 0 ≤ hi ∧ hi ≤ 255 ∧ wr = wx)
      case first =>
        by_cases ha : x0 < 128
        · have ha' : ¬ (128 : Int) ≤ x0 := by omega
          have hab : decide ((128 : Int) ≤ x0) = false := decide_eq_false ha'
          go_wp2_with fail
          go_meet
          exact ⟨1, 128, 191, rfl, rfl, rfl, Lib.hid (.inl ⟨ha, rfl⟩), by omega, by omega, by omega, by omega, by omega, by omega, rfl⟩
        have ha' : (128 : Int) ≤ x0 := by omega
        have hab : decide ((128 : Int) ≤ x0) = true := decide_eq_true ha'
        by_cases hbd : x0 < 194 ∨ 244 < x0
        · have hres : res = false := by rw [← HY.out]; exact v8_bad HNE.out (step_none (by rw [HX0.out]; omega) (by rw [HX0.out]; omega) (by rw [HX0.out]; exact hbd))
          subst hres
          rcases hbd with hbd | hbd
          · go_wp2_with fail
            all_goals (go_ret; exact ⟨rfl, rfl⟩)
          · have hbd' : ¬ x0 < 194 := by omega
            go_wp2_with fail
            all_goals (go_ret; exact ⟨rfl, rfl⟩)
        have hbl : ¬ x0 < 194 := by omega
        have hbh : ¬ 244 < x0 := by omega
        clear hbd
        by_cases t0 : x0 ≤ 223
        · skip
          have HK := Lib.hid (show Kd x0 2 128 191 from .inr (cls_of _ _ _ _ (.inl ⟨by omega, by omega, rfl, rfl, rfl⟩)))
          have g224 : ¬ (224 : Int) ≤ x0 := by omega
          have g240 : ¬ (240 : Int) ≤ x0 := by omega
          have e224 : (x0 == 224) = false := by simp; omega
          have e237 : (x0 == 237) = false := by simp; omega
          have e240 : (x0 == 240) = false := by simp; omega
          have e244 : (x0 == 244) = false := by simp; omega
          go_wp2_with fail
          go_meet
          exact ⟨2, 128, 191, rfl, rfl, rfl, HK, by omega, by omega, by omega, by omega, by omega, by omega, rfl⟩
        by_cases t1 : x0 = 224
        · skip
          have HK := Lib.hid (show Kd x0 3 160 191 from .inr (cls_of _ _ _ _ (.inr (.inl ⟨by omega, by omega, rfl, by rw [if_pos (by omega)], by rw [if_neg (by omega)]⟩))))
          have g224 : (224 : Int) ≤ x0 := by omega
          have g240 : ¬ (240 : Int) ≤ x0 := by omega
          have e224 : (x0 == 224) = true := by simp; omega
          have e237 : (x0 == 237) = false := by simp; omega
          have e240 : (x0 == 240) = false := by simp; omega
          have e244 : (x0 == 244) = false := by simp; omega
          clear t1
          go_wp2_with fail
          go_meet
          exact ⟨3, 160, 191, rfl, rfl, rfl, HK, by omega, by omega, by omega, by omega, by omega, by omega, rfl⟩
        by_cases t2 : x0 ≤ 236
        · skip
          have HK := Lib.hid (show Kd x0 3 128 191 from .inr (cls_of _ _ _ _ (.inr (.inl ⟨by omega, by omega, rfl, by rw [if_neg (by omega)], by rw [if_neg (by omega)]⟩))))
          have g224 : (224 : Int) ≤ x0 := by omega
          have g240 : ¬ (240 : Int) ≤ x0 := by omega
          have e224 : (x0 == 224) = false := by simp; omega
          have e237 : (x0 == 237) = false := by simp; omega
          have e240 : (x0 == 240) = false := by simp; omega
          have e244 : (x0 == 244) = false := by simp; omega
          go_wp2_with fail
          go_meet
          exact ⟨3, 128, 191, rfl, rfl, rfl, HK, by omega, by omega, by omega, by omega, by omega, by omega, rfl⟩
        by_cases t3 : x0 = 237
        · skip
          have HK := Lib.hid (show Kd x0 3 128 159 from .inr (cls_of _ _ _ _ (.inr (.inl ⟨by omega, by omega, rfl, by rw [if_neg (by omega)], by rw [if_pos (by omega)]⟩))))
          have g224 : (224 : Int) ≤ x0 := by omega
          have g240 : ¬ (240 : Int) ≤ x0 := by omega
          have e224 : (x0 == 224) = false := by simp; omega
          have e237 : (x0 == 237) = true := by simp; omega
          have e240 : (x0 == 240) = false := by simp; omega
          have e244 : (x0 == 244) = false := by simp; omega
          clear t3
          go_wp2_with fail
          go_meet
          exact ⟨3, 128, 159, rfl, rfl, rfl, HK, by omega, by omega, by omega, by omega, by omega, by omega, rfl⟩
        by_cases t4 : x0 ≤ 239
        · skip
          have HK := Lib.hid (show Kd x0 3 128 191 from .inr (cls_of _ _ _ _ (.inr (.inl ⟨by omega, by omega, rfl, by rw [if_neg (by omega)], by rw [if_neg (by omega)]⟩))))
          have g224 : (224 : Int) ≤ x0 := by omega
          have g240 : ¬ (240 : Int) ≤ x0 := by omega
          have e224 : (x0 == 224) = false := by simp; omega
          have e237 : (x0 == 237) = false := by simp; omega
          have e240 : (x0 == 240) = false := by simp; omega
          have e244 : (x0 == 244) = false := by simp; omega
          go_wp2_with fail
          go_meet
          exact ⟨3, 128, 191, rfl, rfl, rfl, HK, by omega, by omega, by omega, by omega, by omega, by omega, rfl⟩
        by_cases t5 : x0 = 240
        · skip
          have HK := Lib.hid (show Kd x0 4 144 191 from .inr (cls_of _ _ _ _ (.inr (.inr ⟨by omega, by omega, rfl, by rw [if_pos (by omega)], by rw [if_neg (by omega)]⟩))))
          have g224 : (224 : Int) ≤ x0 := by omega
          have g240 : (240 : Int) ≤ x0 := by omega
          have e224 : (x0 == 224) = false := by simp; omega
          have e237 : (x0 == 237) = false := by simp; omega
          have e240 : (x0 == 240) = true := by simp; omega
          have e244 : (x0 == 244) = false := by simp; omega
          clear t5
          go_wp2_with fail
          go_meet
          exact ⟨4, 144, 191, rfl, rfl, rfl, HK, by omega, by omega, by omega, by omega, by omega, by omega, rfl⟩
        by_cases t6 : x0 ≤ 243
        · skip
          have HK := Lib.hid (show Kd x0 4 128 191 from .inr (cls_of _ _ _ _ (.inr (.inr ⟨by omega, by omega, rfl, by rw [if_neg (by omega)], by rw [if_neg (by omega)]⟩))))
          have g224 : (224 : Int) ≤ x0 := by omega
          have g240 : (240 : Int) ≤ x0 := by omega
          have e224 : (x0 == 224) = false := by simp; omega
          have e237 : (x0 == 237) = false := by simp; omega
          have e240 : (x0 == 240) = false := by simp; omega
          have e244 : (x0 == 244) = false := by simp; omega
          go_wp2_with fail
          go_meet
          exact ⟨4, 128, 191, rfl, rfl, rfl, HK, by omega, by omega, by omega, by omega, by omega, by omega, rfl⟩
        · skip
          have HK := Lib.hid (show Kd x0 4 128 143 from .inr (cls_of _ _ _ _ (.inr (.inr ⟨by omega, by omega, rfl, by rw [if_neg (by omega)], by rw [if_pos (by omega)]⟩))))
          have g224 : (224 : Int) ≤ x0 := by omega
          have g240 : (240 : Int) ≤ x0 := by omega
          have e224 : (x0 == 224) = false := by simp; omega
          have e237 : (x0 == 237) = false := by simp; omega
          have e240 : (x0 == 240) = false := by simp; omega
          have e244 : (x0 == 244) = true := by simp; omega
          go_wp2_with fail
          go_meet
          exact ⟨4, 128, 143, rfl, rfl, rfl, HK, by omega, by omega, by omega, by omega, by omega, by omega, rfl⟩
      case rest =>
        obtain ⟨n, lo, hi, rfl, rfl, rfl, HK, hn1, hn4, la, lb, ha, hb, rfl⟩ := hcut
        by_cases hlen : m - i < n
        · have hlz : (m : Int) - i < n := by omega
          have hres : res = false := by
            rw [← HY.out]
            rcases HK.out with ⟨h1, h2⟩ | h
            · omega
            · exact v8_bad HNE.out (step_short (by rw [HX0.out]; exact h) (by rw [HLD.out]; exact hlen))
          subst hres
          go_wp2_with fail
          all_goals (go_ret; exact ⟨rfl, rfl⟩)
        have hlz : ¬ (m : Int) - i < n := by omega
        go_upto_region 26 with fail
        go_loopw [8, 6, 7] (fun k a b wr2 => ∃ (K : Nat) (l h : Int), k = .int .i64 K ∧ 1 ≤ K ∧ K ≤ n ∧ a = .int .u8 l ∧ b = .int .u8 h ∧ 0 ≤ l ∧ l ≤ 255 ∧ 0 ≤ h ∧ h ≤ 255 ∧ Hid ((l = if K = 1 then lo else 128) ∧ (h = if K = 1 then hi else 191)) ∧ Hid (∀ j, 1 ≤ j → j < K → goodAt (xs.drop i) lo hi j) ∧ wr2 = wr) (fun k _ _ _ => n - (intOf k).toNat)
        case atStart => exact ⟨1, lo, hi, rfl, by omega, hn1, rfl, rfl, la, lb, ha, hb, Lib.hid ⟨rfl, rfl⟩, Lib.hid (fun j h1 h2 => by omega), rfl⟩
        case round =>
          clear la lb ha hb
          obtain ⟨K, l, h, rfl, hK1, hKn, rfl, rfl, la, lb, ha, hb, HLH, HG, rfl⟩ := hrel
          by_cases hKl : K < n
          · have cK := HCC.out (i + K) (by omega)
            obtain ⟨x, hxe⟩ : ∃ x, xs.getD (i + K) 0 = x := ⟨_, rfl⟩
            rw [hxe] at cK
            have hxb : 0 ≤ x ∧ x ≤ 255 := by rw [← hxe]; exact HX.out _ (by rw [List.getD_eq_getElem?_getD, List.getElem?_eq_getElem (by rw [HM.out]; omega)]; exact List.getElem_mem _)
            obtain ⟨xa, xb⟩ := hxb
            have HXE := Lib.hid (show at_ (xs.drop i) K = x by rw [at_drop]; exact hxe)
            clear hxe
            have hik : (i : Int) + K < m := by omega
            by_cases hg : l ≤ x ∧ x ≤ h
            · have HG1 := Lib.hid (show ∀ j, 1 ≤ j → j < K + 1 → goodAt (xs.drop i) lo hi j from fun j h1 h2 => by
                by_cases e : j = K
                · subst e
                  unfold goodAt
                  rw [HXE.out, ← HLH.out.1, ← HLH.out.2]
                  exact hg
                · exact HG.out j h1 (by omega))
              obtain ⟨hga, hgb⟩ := hg
              have hga' : ¬ x < l := by omega
              have hgb' : ¬ h < x := by omega
              go_wp2_with fail
              go_roundw
              case rel => exact ⟨K + 1, 128, 191, by go_num, by omega, by omega, rfl, rfl, by omega, by omega, by omega, by omega, Lib.hid ⟨by rw [if_neg (by omega)], by rw [if_neg (by omega)]⟩, HG1, by trivial⟩
              case measure => simp [intOf]; omega
            · have hres : res = false := by
                rw [← HY.out]
                rcases HK.out with ⟨h1, h2⟩ | hk
                · omega
                · refine v8_bad HNE.out (step_bad (by rw [HX0.out]; exact hk) K hK1 hKl (fun hh => hg ?_))
                  unfold goodAt at hh
                  rw [HXE.out, ← HLH.out.1, ← HLH.out.2] at hh
                  exact hh
              subst hres
              by_cases hg1 : x < l
              · go_wp2_with fail
                all_goals (go_ret; exact ⟨rfl, rfl⟩)
              · have hg2 : h < x := by omega
                go_wp2_with fail
                all_goals (go_ret; exact ⟨rfl, rfl⟩)
          · obtain rfl : K = n := by omega
            have HYN := Lib.hid (show v8 (xs.drop (i + K)) = res by
              rw [← List.drop_drop, ← HY.out]
              rcases HK.out with ⟨h1, h2⟩ | hk
              · subst h2; exact (v8_ascii HNE.out (by rw [HX0.out]; exact h1)).symm
              · exact (v8_step HNE.out (step_good (by rw [HX0.out]; exact hk) (by rw [HLD.out]; omega) HG.out) (by omega)).symm)
            go_wp2_with fail
            go_roundw
            case rel => exact ⟨i + K, by go_num, by omega, HYN, by trivial⟩
            case measure => simp [intOf]; omega
    · obtain rfl : i = m := by omega
      have hres : res = true := by rw [← HY.out, List.drop_of_length_le (by rw [HM.out]; omega)]; rfl
      subst hres
      go_wp2_with fail
      go_ret
      exact ⟨rfl, rfl⟩
set_option maxRecDepth 100000 in
set_option maxHeartbeats 3200000 in
theorem refName (v : Value) (xs : List Int) (w : World) (hr : Reads .u8 w v xs) (hx : ∀ x ∈ xs, 0 ≤ x ∧ x ≤ 255) : Calls Tryd.prog 28 #[v] w fun e w' => e = .returned (.bool (Nm.nameB xs)) ∧ w' = w := by
  obtain ⟨p, c, rfl, q1, q2, q3, q4⟩ := hr
  obtain ⟨m, hm⟩ : ∃ m, xs.length = m := ⟨_, rfl⟩
  have HM := Lib.hid hm
  have hmm : m ≤ 9223372036854775807 := by unfold maxLen at q2; omega
  obtain ⟨res, hres⟩ : ∃ r, Nm.nameB xs = r := ⟨_, rfl⟩
  have HRES := Lib.hid hres
  have HX := Lib.hid hx
  have HC := Lib.hid q4
  rw [hm, hres]
  clear q1 q2 q3 q4 hm hres hx
  go_enter Tryd.func28, Tryd.ntmps28
  go_wp2_with fail
  go_loopw [3] (fun u wr => ∃ i : Nat, u = .int .i64 i ∧ i ≤ m ∧ Hid (∀ j, j < i → Nm.oddB (xs.getD j 0) = false) ∧ wr = w) (fun u _ => m - (intOf u).toNat)
  case atStart => exact ⟨0, rfl, by omega, Lib.hid (fun j hj => by omega), rfl⟩
  case round =>
    obtain ⟨i, rfl, him, HY, rfl⟩ := hrel
    by_cases hlt : i < m
    · obtain ⟨b, off, hp, hltb, hcells⟩ := HC.out (by rw [HM.out]; omega)
      subst hp
      rw [HM.out] at hcells
      have c0 := hcells i hlt
      obtain ⟨x0, hx0⟩ : ∃ x0, xs.getD i 0 = x0 := ⟨_, rfl⟩
      rw [hx0] at c0
      have HMEM := Lib.hid (show x0 ∈ xs by rw [← hx0, List.getD_eq_getElem?_getD, List.getElem?_eq_getElem (by rw [HM.out]; exact hlt)]; exact List.getElem_mem _)
      obtain ⟨ba, bb⟩ := HX.out _ HMEM.out
      have HX0 := Lib.hid hx0
      clear hx0 hcells hltb
      by_cases ho : Nm.oddB x0 = true
      · have hres : res = false := by
          rw [← HRES.out]
          unfold Nm.nameB
          have : xs.any Nm.oddB = true := List.any_eq_true.2 ⟨x0, HMEM.out, ho⟩
          rw [this]
          simp
        subst hres
        unfold Nm.oddB at ho
        by_cases g1 : 97 ≤ x0 <;> by_cases g2 : x0 ≤ 122 <;> by_cases g3 : 48 ≤ x0 <;> by_cases g4 : x0 ≤ 57 <;> by_cases g5 : x0 = 46 <;> by_cases g6 : x0 = 45
        all_goals first | (exfalso; simp [*] at ho; done) | (exfalso; omega) | skip
        all_goals
          have e5 : (x0 == 46) = false := by simpa using g5
          have e6 : (x0 == 45) = false := by simpa using g6
          clear g5 g6 ho
          go_wp2_with fail
          all_goals (go_ret; exact ⟨rfl, rfl⟩)
      · have ho2 : Nm.oddB x0 = false := by simpa using ho
        have HY1 := Lib.hid (show ∀ j, j < i + 1 → Nm.oddB (xs.getD j 0) = false from fun j hj => by
          by_cases e : j = i
          · subst e; rw [HX0.out]; exact ho2
          · exact HY.out j (by omega))
        unfold Nm.oddB at ho2
        clear ho HY
        have hcs : (97 ≤ x0 ∧ x0 ≤ 122) ∨ (x0 < 97 ∧ 48 ≤ x0 ∧ x0 ≤ 57) ∨ (x0 < 48 ∧ x0 = 46) ∨ (x0 < 48 ∧ x0 ≠ 46 ∧ x0 = 45) := by
          simp at ho2
          omega
        clear ho2
        rcases hcs with ⟨g1, g2⟩ | ⟨g1, g2, g3⟩ | ⟨g1, g2⟩ | ⟨g1, g2, g3⟩
        · go_wp2_with fail
          go_roundw
          case rel => exact ⟨i + 1, by go_num, by omega, HY1, by trivial⟩
          case measure => simp [intOf]; omega
        · go_wp2_with fail
          go_roundw
          case rel => exact ⟨i + 1, by go_num, by omega, HY1, by trivial⟩
          case measure => simp [intOf]; omega
        · have e1 : (x0 == 46) = true := by simpa using g2
          have g3 : ¬ 97 ≤ x0 := by omega
          clear g2
          go_wp2_with fail
          go_roundw
          case rel => exact ⟨i + 1, by go_num, by omega, HY1, by trivial⟩
          case measure => simp [intOf]; omega
        · have e1 : (x0 == 46) = false := by simpa using g2
          have e2 : (x0 == 45) = true := by simpa using g3
          have g4 : ¬ 97 ≤ x0 := by omega
          clear g2 g3
          go_wp2_with fail
          go_roundw
          case rel => exact ⟨i + 1, by go_num, by omega, HY1, by trivial⟩
          case measure => simp [intOf]; omega
    · obtain rfl : i = m := by omega
      have hodd : xs.any Nm.oddB = false := by
        rw [List.any_eq_false]
        intro x hxm
        obtain ⟨j, hj, e⟩ := List.getElem_of_mem hxm
        have := HY.out j (by rw [← HM.out]; exact hj)
        rw [List.getD_eq_getElem?_getD, List.getElem?_eq_getElem hj] at this
        rw [← e]
        simpa using this
      have hres : res = (decide (1 ≤ i) && decide (i ≤ 32)) := by rw [← HRES.out]; unfold Nm.nameB; rw [hodd, HM.out]; simp
      by_cases g1 : 1 ≤ i
      · by_cases g2 : i ≤ 32
        · obtain rfl : res = true := by rw [hres, decide_eq_true g1, decide_eq_true g2]; rfl
          clear hres
          have g3 : (i : Int) ≤ 32 := by omega
          go_wp2_with fail
          go_ret
          exact ⟨rfl, rfl⟩
        · obtain rfl : res = false := by rw [hres, decide_eq_true g1, decide_eq_false g2]; rfl
          clear hres
          have g3 : ¬ (i : Int) ≤ 32 := by omega
          go_wp2_with fail
          go_ret
          exact ⟨rfl, rfl⟩
      · obtain rfl : res = false := by rw [hres, decide_eq_false g1]; rfl
        clear hres
        have g3 : ¬ (1 : Int) ≤ i := by omega
        go_wp2_with fail
        go_ret
        exact ⟨rfl, rfl⟩
end Go.Proofs.YtjfmahodbdianaaDoor.Utf
