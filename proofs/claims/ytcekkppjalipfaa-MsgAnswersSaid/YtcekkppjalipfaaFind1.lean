/-
  Contracts: Find$1, slices.IndexFunc, msg.Find, the reference's Find; msg.Code and the reference's Code.
-/
import Derived.Test.YtcekkppjalipfaaMsg6
import Derived.Test.YtcekkppjalipfaaReg
namespace Go.Proofs.Ytcekkppjalipfaa.Avp
open Go.RowKit Mem Cells Avps Wire Ops
set_option linter.unusedVariables false
set_option linter.unusedSimpArgs false

/-- Is it the attribute that is looked for? -/
def hit (code : Int) (a : A) : Bool := a.code == code && a.vendor == 0
/-- The place of the first one. -/
def place (code : Int) (al : List A) : Nat := al.findIdx (hit code)
def posI (code : Int) (al : List A) : Int := if place code al < al.length then (place code al : Int) else -1
/-- What Find answers. -/
def findOf (code : Int) (al : List A) : List Int × Bool := match al[place code al]? with | some a => (a.data, true) | none => ([], false)
def FindIs (w : World) (R : List Int × Bool) (e : Ending) (w' : World) : Prop := ∃ v', e = .returned (.tuple #[v', .bool R.2]) ∧ Row .u8 5 w.heap.size w' v' R.1 ∧ Below w.heap.size w w'
theorem place_le (code : Int) (al : List A) : place code al ≤ al.length := List.findIdx_le_length
theorem place_miss (code : Int) (al : List A) (k : Nat) (x : A) (h : k < place code al) (hx : al[k]? = some x) : hit code x = false := by
  obtain ⟨h1, rfl⟩ := List.getElem?_eq_some_iff.1 hx
  exact by simpa using List.not_of_lt_findIdx h
theorem place_hit (code : Int) (al : List A) (x : A) (hx : al[place code al]? = some x) : hit code x = true := by
  obtain ⟨h1, rfl⟩ := List.getElem?_eq_some_iff.1 hx
  exact List.findIdx_getElem (w := h1)

set_option maxRecDepth 100000 in
theorem pred (a : A) (d : Value) (code : Int) (g : Nat) (T : TypeId) (w : World) (hat : At w g T #[.int .u32 code]) :
    Calls Try.prog 36 #[.agg (row a d).toArray, .pointer (some ⟨g, 0, none⟩)] w fun e w' => e = .returned (.bool (hit code a)) ∧ Below w.heap.size w w' := by
  by_cases h : a.code = code
  · have e : hit code a = (a.vendor == 0) := by unfold hit; rw [h]; simp
    rw [e]
    have h1 : (a.code == code) = true := by simpa using h
    clear e h
    go_enter Try.func36, Try.ntmps36
    go_wp2_with ((with_reducible refine wpl_boxAt rfl 60 (.tmp 0) rfl (row a d).toArray ?_ ?_); rfl; go_must (intro w1 hat1 hb1 hs1; clear hs1; have c0 := hat1.cell 0; have c1 := hat1.cell 1; simp [row] at c0 c1; have cg := (hat.ext hb1).cell 0; simp at cg; clear hat1 hat))
    go_ret
    exact ⟨rfl, hb1⟩
  · have e : hit code a = false := by unfold hit; simp [h]
    rw [e]
    have h1 : (a.code == code) = false := by simpa using h
    clear e h
    go_enter Try.func36, Try.ntmps36
    go_wp2_with ((with_reducible refine wpl_boxAt rfl 60 (.tmp 0) rfl (row a d).toArray ?_ ?_); rfl; go_must (intro w1 hat1 hb1 hs1; clear hs1; have c0 := hat1.cell 0; have c1 := hat1.cell 1; simp [row] at c0 c1; have cg := (hat.ext hb1).cell 0; simp at cg; clear hat1 hat))
    go_ret
    exact ⟨rfl, hb1⟩
set_option maxRecDepth 100000 in
set_option maxHeartbeats 1600000 in
theorem index (v : Value) (al : List A) (code : Int) (g : Nat) (T : TypeId) (w : World) (hr : ReadsL w v al) (hat : At w g T #[.int .u32 code]) :
    Calls Try.prog 35 #[v, .func (.func 36) #[] #[.pointer (some ⟨g, 0, none⟩)]] w fun e w' => e = .returned (.int .i64 (posI code al)) ∧ Below w.heap.size w w' := by
  obtain ⟨p, c, rfl, q1, q2⟩ := hr.shape
  have hmax : al.length ≤ 9223372036854775807 := by unfold maxLen at q2; omega
  have HR := Lib.hid hr
  have HAT := Lib.hid hat
  obtain ⟨i, hi⟩ : ∃ i, place code al = i := ⟨_, rfl⟩
  have hle := place_le code al
  rw [hi] at hle
  have HM := Lib.hid (fun k x (h : k < i) => place_miss code al k x (by rw [hi]; exact h))
  have HH := Lib.hid (fun x => place_hit code al x)
  rw [hi] at HH
  have HP := Lib.hid (show posI code al = if i < al.length then (i : Int) else -1 by unfold posI; rw [hi])
  obtain ⟨n, hn⟩ : ∃ n, al.length = n := ⟨_, rfl⟩
  rw [hn] at HR hmax hle HP ⊢
  have HN := Lib.hid hn
  clear hr hat hi q1 q2 hn
  go_enter Try.func35, Try.ntmps35
  go_wp2_with fail
  go_loopw [8] (fun j wr => ∃ k : Nat, j = .int .i64 k ∧ k ≤ i ∧ Below w.heap.size w wr) (fun j _ => n - (intOf j).toNat)
  case atStart => exact ⟨0, rfl, by omega, Below.refl _ _⟩
  case round =>
    obtain ⟨k, rfl, hk, hbl⟩ := hrel
    by_cases hlt : k < n
    · have hel := (HR.out.below hbl).elem k (by rw [HN.out]; exact hlt)
      rw [HN.out] at hel
      obtain ⟨x, hx1, hx2, b, off, c', pd, nd, hv, _, _, hltb, hra, hrd⟩ := hel
      cases hv
      have HRA := Lib.hid hra
      have HX := Lib.hid hx1
      clear hra hx1 hrd
      by_cases hki : k < i
      · have PF := Lib.hid (fun (d : Value) u (h : At u g T #[.int .u32 code]) => by have := pred x d code g T u h; rwa [HM.out k x hki HX.out] at this)
        go_wp2_with (first
          | ((with_reducible refine wpl_loadE rfl 60 (.tmp 14) rfl b (off + k * 5) ?_ (row x (.slice pd x.data.length nd)).toArray _ HRA.out Try.underlying60 rfl (by kernel_rfl) ?_); rfl; clear HRA)
          | (go_at_call 36; go_must (refine (PF.out _ _ (HAT.out.ext hbl)).mono ?_; rintro e u ⟨rfl, hb⟩; have hbl2 := hbl.trans (hb.mono hbl.size))))
        go_roundw
        case rel => exact ⟨k + 1, by go_num, by omega, hbl2⟩
        case measure => simp [intOf]; omega
      · obtain rfl : k = i := by omega
        have PF := Lib.hid (fun (d : Value) u (h : At u g T #[.int .u32 code]) => by have := pred x d code g T u h; rwa [HH.out x HX.out] at this)
        have HP2 := Lib.hid (HP.out.trans (if_pos hlt))
        go_wp2_with (first
          | ((with_reducible refine wpl_loadE rfl 60 (.tmp 14) rfl b (off + k * 5) ?_ (row x (.slice pd x.data.length nd)).toArray _ HRA.out Try.underlying60 rfl (by kernel_rfl) ?_); rfl; clear HRA)
          | (go_at_call 36; go_must (refine (PF.out _ _ (HAT.out.ext hbl)).mono ?_; rintro e u ⟨rfl, hb⟩; have hbl2 := hbl.trans (hb.mono hbl.size))))
        go_ret
        exact ⟨by rw [HP2.out]; rfl, hbl2⟩
    · have HP2 := Lib.hid (HP.out.trans (if_neg (by omega)))
      go_wp2_with fail
      go_ret
      exact ⟨by rw [HP2.out]; rfl, hbl⟩

set_option maxRecDepth 100000 in
set_option maxHeartbeats 1600000 in
theorem msgFind (m : M) (p : Option Addr) (c : Nat) (code : Int) (w : World) (hr : ReadsL w (.slice p m.avps.length c) m.avps) (hd : ∀ a ∈ m.avps, a.data.length ≤ 140737488355300) :
    Calls Try.prog 18 #[.agg (rowM m (.slice p m.avps.length c)), .int .u32 code] w (FindIs w (findOf code m.avps)) := by
  have hone : (Value.slice p m.avps.length c).oneCell' = true := rfl
  obtain ⟨p', c', ee, q1, q2⟩ := hr.shape
  cases ee
  have hmax : m.avps.length ≤ 9223372036854775807 := by unfold maxLen at q2; omega
  have HR := Lib.hid hr
  obtain ⟨i, hi⟩ : ∃ i, place code m.avps = i := ⟨_, rfl⟩
  have hle := place_le code m.avps
  rw [hi] at hle
  have PI := Lib.hid (fun g T u (h : ReadsL u (.slice p m.avps.length c) m.avps) => index _ m.avps code g T u h)
  by_cases hlt : i < m.avps.length
  · obtain ⟨x, hx⟩ : ∃ x, m.avps[i]? = some x := ⟨_, List.getElem?_eq_getElem hlt⟩
    have HF := Lib.hid (show findOf code m.avps = (x.data, true) by unfold findOf; rw [hi, hx])
    have hxd := hd x (List.mem_of_getElem? hx)
    have e : posI code m.avps = i := by unfold posI; rw [hi, if_pos hlt]
    have HX := Lib.hid hx
    rw [e] at PI
    have EL := Lib.hid (fun u (h : ReadsL u (.slice p m.avps.length c) m.avps) => h.elem i hlt)
    obtain ⟨n, hn⟩ : ∃ n, m.avps.length = n := ⟨_, rfl⟩
    rw [hn] at HR PI hmax hle hlt EL ⊢
    clear hr hd hi q1 q2 hn hx e
    obtain ⟨x', hx1, hx2, b, off, c', pd, nd, hv, _, _, hltb, hra, hrd⟩ := EL.out w HR.out
    cases hv
    obtain rfl : x' = x := by rw [HX.out] at hx1; exact (Option.some.inj hx1).symm
    have CE := Lib.hid (fun u (h : Below w.heap.size w u) => (h.cell (p := ⟨b, off + i * 5 + 4, none⟩) hltb).trans (hra 4 _ rfl))
    clear hx1 hra
    go_enter Try.func18, Try.ntmps18
    go_wp2_with (first
      | ((with_reducible refine wpl_boxAt rfl 25 (.tmp 0) rfl (rowM m (.slice (some ⟨b, off, none⟩) n c)) ?_ ?_); rfl; go_must (intro w1 hat1 hb1 hs1; clear hs1; have c8 := hat1.cell 8; simp [rowM] at c8))
      | ((with_reducible refine wpl_boxAt rfl 22 (.tmp 1) rfl #[.int .u32 code] ?_ ?_); rfl; go_must (intro w2 hat2 hb2 hs2; clear hs2; have hb12 := hb1.trans (hb2.mono hb1.size); have hat12 := hat1.ext hb2; clear c8 hat1 hb1 hb2; have c8 := hat12.cell 8; simp [rowM] at c8))
      | (go_at_call 35; go_must (refine (PI.out _ _ _ (HR.out.below hb12) hat2).mono ?_; rintro e u ⟨rfl, hb⟩; have hu := hb12.trans (hb.mono hb12.size); have hat3 := hat12.ext hb; clear c8 hat12; have c8 := hat3.cell 8; simp [rowM] at c8; have ce := CE.out _ hu))
      | (go_at_call 37; go_must (refine (clone _ _ _ (hrd.below hu) (by omega)).mono ?_; rintro e u2 ⟨v2, rfl, hrow, hb3⟩)))
    go_ret2
    exact ⟨_, by rw [HF.out] <;> rfl, by rw [HF.out]; exact hrow.mono hu.size, hu.trans (hb3.mono hu.size)⟩
  · have HF := Lib.hid (show findOf code m.avps = ([], false) by unfold findOf; rw [hi, List.getElem?_eq_none (by omega)])
    have e : posI code m.avps = -1 := by unfold posI; rw [hi, if_neg hlt]
    rw [e] at PI
    obtain ⟨n, hn⟩ : ∃ n, m.avps.length = n := ⟨_, rfl⟩
    rw [hn] at HR PI hmax hle hlt ⊢
    clear hr hd hi q1 q2 hn e
    go_enter Try.func18, Try.ntmps18
    go_wp2_with (first
      | ((with_reducible refine wpl_boxAt rfl 25 (.tmp 0) rfl (rowM m (.slice p n c)) ?_ ?_); rfl; go_must (intro w1 hat1 hb1 hs1; clear hs1; have c8 := hat1.cell 8; simp [rowM] at c8))
      | ((with_reducible refine wpl_boxAt rfl 22 (.tmp 1) rfl #[.int .u32 code] ?_ ?_); rfl; go_must (intro w2 hat2 hb2 hs2; clear hs2; have hb12 := hb1.trans (hb2.mono hb1.size); have hat12 := hat1.ext hb2; clear c8 hat1 hb1 hb2; have c8 := hat12.cell 8; simp [rowM] at c8))
      | (go_at_call 35; go_must (refine (PI.out _ _ _ (HR.out.below hb12) hat2).mono ?_; rintro e u ⟨rfl, hb⟩; have hu := hb12.trans (hb.mono hb12.size); have hat3 := hat12.ext hb; clear c8 hat12; have c8 := hat3.cell 8; simp [rowM] at c8)))
    go_ret2
    exact ⟨_, by rw [HF.out] <;> rfl, by rw [HF.out]; exact World.ownsRow_nil _ _ _ _, hu⟩
set_option maxRecDepth 100000 in
set_option maxHeartbeats 1600000 in
theorem refFind (m : M) (p : Option Addr) (c : Nat) (code : Int) (w : World) (hr : ReadsL w (.slice p m.avps.length c) m.avps) (hd : ∀ a ∈ m.avps, a.data.length ≤ 140737488355300) :
    Calls Try.prog 19 #[.agg (rowM m (.slice p m.avps.length c)), .int .u32 code] w (FindIs w (findOf code m.avps)) := by
  have hone : (Value.slice p m.avps.length c).oneCell' = true := rfl
  obtain ⟨p', c', ee, q1, q2⟩ := hr.shape
  cases ee
  have hmax : m.avps.length ≤ 9223372036854775807 := by unfold maxLen at q2; omega
  have HR := Lib.hid hr
  obtain ⟨i, hi⟩ : ∃ i, place code m.avps = i := ⟨_, rfl⟩
  have hle := place_le code m.avps
  rw [hi] at hle
  have HM := Lib.hid (fun k x (h : k < i) => place_miss code m.avps k x (by rw [hi]; exact h))
  have HH := Lib.hid (fun x => place_hit code m.avps x)
  rw [hi] at HH
  have HF1 := Lib.hid (fun x (h : m.avps[i]? = some x) => show findOf code m.avps = (x.data, true) by unfold findOf; rw [hi, h])
  have HF2 := Lib.hid (fun (h : m.avps.length ≤ i) => show findOf code m.avps = ([], false) by unfold findOf; rw [hi, List.getElem?_eq_none h])
  have HD := Lib.hid hd
  obtain ⟨n, hn⟩ : ∃ n, m.avps.length = n := ⟨_, rfl⟩
  have EL := Lib.hid (fun k (hk : k < n) u (h : ReadsL u (.slice p n c) m.avps) => by have := h.elem k (by rw [hn]; exact hk); rwa [hn] at this)
  rw [hn] at HR hmax hle HF2 ⊢
  clear hr hd hi q1 q2 hn
  go_enter Try.func19, Try.ntmps19
  go_wp2_with ((with_reducible refine wpl_boxAt rfl 25 (.tmp 0) rfl (rowM m (.slice p n c)) ?_ ?_); rfl; go_must (intro w1 hat1 hb1 hs1; clear hs1; have c8 := hat1.cell 8; simp [rowM] at c8))
  clear c8
  go_loopw [6] (fun j wr => ∃ k : Nat, j = .int .i64 k ∧ k ≤ i ∧ Below w.heap.size w wr ∧ At wr w.heap.size 25 (rowM m (.slice p n c))) (fun j _ => n - (intOf j).toNat)
  case atStart => exact ⟨0, rfl, by omega, hb1, hat1⟩
  case round =>
    clear hat1 hb1
    obtain ⟨k, rfl, hk, hbl, hat⟩ := hrel
    have c8 := hat.cell 8
    simp [rowM] at c8
    by_cases hlt : k < n
    · obtain ⟨x, hx1, hx2, b, off, c', pd, nd, hv, _, _, hltb, hra, hrd⟩ := EL.out k hlt _ (HR.out.below hbl)
      cases hv
      have c0 : wr.cell? ⟨b, off + k * 5, none⟩ = some (.int .u32 x.code) := hra 0 _ rfl
      have c1 : wr.cell? ⟨b, off + k * 5 + 1, none⟩ = some (.int .u32 x.vendor) := hra 1 _ rfl
      have c4 : wr.cell? ⟨b, off + k * 5 + 4, none⟩ = some (.slice pd x.data.length nd) := hra 4 _ rfl
      have HX := Lib.hid hx1
      clear hra hx1
      by_cases hki : k < i
      · have hm := HM.out k x hki HX.out
        unfold hit at hm
        by_cases hcd : x.code = code
        · have hm' : (x.vendor == 0) = false := by rw [hcd] at hm; simpa using hm
          have hc' : (x.code == code) = true := by simpa using hcd
          clear hm hcd
          go_wp2_with fail
          go_roundw
          case rel => exact ⟨k + 1, by go_num, by omega, hbl, hat⟩
          case measure => simp [intOf]; omega
        · have hc' : (x.code == code) = false := by simpa using hcd
          clear hm hcd
          go_wp2_with fail
          go_roundw
          case rel => exact ⟨k + 1, by go_num, by omega, hbl, hat⟩
          case measure => simp [intOf]; omega
      · obtain rfl : k = i := by omega
        have hm := HH.out x HX.out
        unfold hit at hm
        rw [Bool.and_eq_true] at hm
        obtain ⟨hc', hv'⟩ := hm
        have HF := Lib.hid (HF1.out x HX.out)
        have hxd := HD.out x hx2
        have K1 : ([] : List Int).length + x.data.length ≤ maxLen := by simp [maxLen]; omega
        have K2 : (([] : List Int).length + x.data.length) * 1 ≤ 140737488355328 := by simp; omega
        go_wp2_with (first
          | ((with_reducible refine wpl_empty rfl 26 5 rfl .u8 (fun _ => by kernel_rfl) ?_); go_must (intro u hown hb hs; clear hs; have hbs := hb.size; have hu := hbl.trans (hb.mono hbl.size); have hat2 := hat.ext hb; clear c8 hat; have c8 := hat2.cell 8; simp [rowM] at c8; have hlb := hltb; have c4' := (hb.cell (p := ⟨b, off + k * 5 + 4, none⟩) hlb).trans c4; clear c4; have hrd2 := hrd.below hb))
          | (at_builtin; have _t := hown; clear _t; go_must (obtain ⟨i0, hi, hz0, hz1, hz2⟩ := info_parts info5; refine wpl_append rfl (.tmp 31) (.tmp 37) 26 rfl .u8 wr.heap.size 5 1 i0 (.int .u8 0) Try.underlying26 hi hz0 hz1 hz2 rfl _ _ [] x.data rfl rfl hown hrd2 K1 K2 hbs ?_; clear hi hz0 hz1 hz2; intro v2 u2 hv2 hg0; have hg : World.grownBy _ _ (some wr.heap.size) := hg0; clear hg0; rw [List.nil_append] at hv2; have hu2 := below_grown hu hg hu.size hbl.size)))
        go_ret2
        exact ⟨_, by rw [HF.out] <;> rfl, by rw [HF.out]; exact hv2.mono hbl.size, hu2⟩
    · have HF := Lib.hid (HF2.out (by omega))
      go_wp2_with fail
      go_ret2
      exact ⟨_, by rw [HF.out] <;> rfl, by rw [HF.out]; exact World.ownsRow_nil _ _ _ _, hbl⟩
end Go.Proofs.Ytcekkppjalipfaa.Avp
