/-
  Contracts: Judge's closure (is it this one's rule?), slices.IndexFunc with it, avp.Least.
-/
import Derived.Test.YtjfmahodbdianaaDoorBase0
import Derived.Test.YtjfmahodbdianaaDoorAvpsO
namespace Go.Proofs.YtjfmahodbdianaaDoor.Dict
open Go.RowKit Mem Cells Ops Rule
set_option linter.unusedVariables false
set_option linter.unusedSimpArgs false

/-- Is it this name's? -/
def hitR (c v : Int) (r : R) : Bool := (r.code == c) && (r.vendor == v)
set_option maxRecDepth 100000 in
set_option maxHeartbeats 800000 in
theorem isHit (r : R) (c v : Int) (g : Nat) (w : World) (hk : At w g 45 #[.int .u32 c, .int .u32 v]) :
    Calls Tryd.prog 18 #[.agg (rowR r), .pointer (some ⟨g, 0, none⟩)] w fun e w' => e = .returned (.bool (hitR c v r)) ∧ Below w.heap.size w w' := by
  go_enter Tryd.func18, Tryd.ntmps18
  go_wp2_with (first
    | ((with_reducible refine wpl_boxAt rfl 37 (.tmp 0) rfl (rowR r) ?_ ?_); rfl; go_must (intro w5 hatk hb hs5; clear hs5; have hk5 := hk.ext hb; have c0 := hatk.cell 0; have c1 := hatk.cell 1; simp [rowR] at c0 c1))
    | ((with_reducible refine wpl_loadAt rfl 45 (.tmp 1) rfl g 45 #[.int .u32 c, .int .u32 v] hk5 _ Tryd.underlying45 rfl (by kernel_rfl) ?_ ?_); rfl))
  all_goals (go_ret; exact ⟨by simp [hitR, *], hb⟩)
/-- The place of the first one. -/
def place (p : R → Bool) (ks : List R) : Nat := ks.findIdx p
def posI (p : R → Bool) (ks : List R) : Int := if place p ks < ks.length then (place p ks : Int) else -1
theorem place_le (p : R → Bool) (ks : List R) : place p ks ≤ ks.length := List.findIdx_le_length
theorem place_miss (p : R → Bool) (ks : List R) (k : Nat) (x : R) (h : k < place p ks) (hx : ks[k]? = some x) : p x = false := by
  obtain ⟨h1, rfl⟩ := List.getElem?_eq_some_iff.1 hx
  exact by simpa using List.not_of_lt_findIdx h
theorem place_hit (p : R → Bool) (ks : List R) (x : R) (hx : ks[place p ks]? = some x) : p x = true := by
  obtain ⟨h1, rfl⟩ := List.getElem?_eq_some_iff.1 hx
  exact List.findIdx_getElem (w := h1)
set_option maxRecDepth 100000 in
set_option maxHeartbeats 1600000 in
theorem index (v : Value) (ks : List R) (c vn : Int) (g : Nat) (w : World) (hr : ReadsR w v ks) (hk : At w g 45 #[.int .u32 c, .int .u32 vn]) :
    Calls Tryd.prog 17 #[v, .func (.func 18) #[] #[.pointer (some ⟨g, 0, none⟩)]] w fun e w' => e = .returned (.int .i64 (posI (hitR c vn) ks)) ∧ Below w.heap.size w w' := by
  obtain ⟨p, cc, rfl, q1, q2⟩ := hr.shape
  have hmax : ks.length ≤ 9223372036854775807 := by unfold maxLen at q2; omega
  have HR := Lib.hid hr
  have PF := Lib.hid (fun (x : R) u (hu : Below w.heap.size w u) => isHit x c vn g u (hk.ext hu))
  obtain ⟨i, hi⟩ : ∃ i, place (hitR c vn) ks = i := ⟨_, rfl⟩
  have hle := place_le (hitR c vn) ks
  rw [hi] at hle
  have HM := Lib.hid (fun k x (h : k < i) => place_miss (hitR c vn) ks k x (by rw [hi]; exact h))
  have HH := Lib.hid (fun x => place_hit (hitR c vn) ks x)
  rw [hi] at HH
  have HP := Lib.hid (show posI (hitR c vn) ks = if i < ks.length then (i : Int) else -1 by unfold posI; rw [hi])
  obtain ⟨n, hnn⟩ : ∃ n, ks.length = n := ⟨_, rfl⟩
  have EL := Lib.hid (fun k (hk : k < n) u (h : ReadsR u (.slice p n cc) ks) => by have := h.elem k (by rw [hnn]; exact hk); rwa [hnn] at this)
  rw [hnn] at HR hmax hle HP ⊢
  clear hr hi q1 q2 hnn hk
  go_enter Tryd.func17, Tryd.ntmps17
  go_wp2_with fail
  go_loopw [8] (fun j wr => ∃ k : Nat, j = .int .i64 k ∧ k ≤ i ∧ Below w.heap.size w wr) (fun j _ => n - (intOf j).toNat)
  case atStart => exact ⟨0, rfl, by omega, Below.refl _ _⟩
  case round =>
    obtain ⟨k, rfl, hk, hbl⟩ := hrel
    by_cases hlt : k < n
    · obtain ⟨x, hx1, hx2, b, off, c', hv, hltb, hra⟩ := EL.out k hlt _ (HR.out.below hbl)
      cases hv
      have HRA := Lib.hid hra
      have HX := Lib.hid hx1
      clear hra hx1 hx2
      by_cases hki : k < i
      · have hpx := HM.out k x hki HX.out
        have PF2 := Lib.hid (fun u (hu : Below w.heap.size w u) => by have := PF.out x u hu; rwa [hpx] at this)
        clear hpx
        go_wp2_with (first
          | ((with_reducible refine wpl_loadE rfl 37 (.tmp 14) rfl b (off + k * 6) ?_ (rowR x) _ HRA.out Tryd.underlying37 rfl (by kernel_rfl) ?_); rfl; clear HRA)
          | (go_at_call 18; go_must (refine (PF2.out _ hbl).mono ?_; rintro e u ⟨rfl, hb⟩; have hbl2 := hbl.trans (hb.mono hbl.size))))
        go_roundw
        case rel => exact ⟨k + 1, by go_num, by omega, hbl2⟩
        case measure => simp [intOf]; omega
      · obtain rfl : k = i := by omega
        have hpx := HH.out x HX.out
        have PF2 := Lib.hid (fun u (hu : Below w.heap.size w u) => by have := PF.out x u hu; rwa [hpx] at this)
        have HP2 := Lib.hid (HP.out.trans (if_pos hlt))
        clear hpx
        go_wp2_with (first
          | ((with_reducible refine wpl_loadE rfl 37 (.tmp 14) rfl b (off + k * 6) ?_ (rowR x) _ HRA.out Tryd.underlying37 rfl (by kernel_rfl) ?_); rfl; clear HRA)
          | (go_at_call 18; go_must (refine (PF2.out _ hbl).mono ?_; rintro e u ⟨rfl, hb⟩; have hbl2 := hbl.trans (hb.mono hbl.size))))
        go_ret
        exact ⟨by rw [HP2.out]; rfl, hbl2⟩
    · have HP2 := Lib.hid (HP.out.trans (if_neg (by omega)))
      go_wp2_with fail
      go_ret
      exact ⟨by rw [HP2.out]; rfl, hbl⟩
/-- How many bytes a type has at least. -/
def leastN (t : Int) : Int := if t = 2 ∨ t = 4 ∨ t = 6 then 4 else if t = 3 ∨ t = 5 ∨ t = 7 then 8 else if t = 10 then 1 else if t = 11 then 6 else 0
set_option maxRecDepth 100000 in
theorem least (t : Int) (w : World) : Calls Tryd.prog 21 #[.int .i64 t] w fun e w' => e = .returned (.int .i64 (leastN t)) ∧ w' = w := by
  have key : ∀ x, leastN t = x → (Calls Tryd.prog 21 #[.int .i64 t] w fun e w' => e = .returned (.int .i64 x) ∧ w' = w) → Calls Tryd.prog 21 #[.int .i64 t] w fun e w' => e = .returned (.int .i64 (leastN t)) ∧ w' = w := by
    intro x hx h; rw [hx]; exact h
  by_cases h2 : t = 2
  · subst h2; refine key 4 rfl ?_; clear key; go_enter Tryd.func21, Tryd.ntmps21; go_wp2; go_ret; exact ⟨rfl, rfl⟩
  by_cases h4 : t = 4
  · subst h4; refine key 4 rfl ?_; clear key; go_enter Tryd.func21, Tryd.ntmps21; go_wp2; go_ret; exact ⟨rfl, rfl⟩
  by_cases h6 : t = 6
  · subst h6; refine key 4 rfl ?_; clear key; go_enter Tryd.func21, Tryd.ntmps21; go_wp2; go_ret; exact ⟨rfl, rfl⟩
  by_cases h3 : t = 3
  · subst h3; refine key 8 rfl ?_; clear key; go_enter Tryd.func21, Tryd.ntmps21; go_wp2; go_ret; exact ⟨rfl, rfl⟩
  by_cases h5 : t = 5
  · subst h5; refine key 8 rfl ?_; clear key; go_enter Tryd.func21, Tryd.ntmps21; go_wp2; go_ret; exact ⟨rfl, rfl⟩
  by_cases h7 : t = 7
  · subst h7; refine key 8 rfl ?_; clear key; go_enter Tryd.func21, Tryd.ntmps21; go_wp2; go_ret; exact ⟨rfl, rfl⟩
  by_cases h10 : t = 10
  · subst h10; refine key 1 rfl ?_; clear key; go_enter Tryd.func21, Tryd.ntmps21; go_wp2; go_ret; exact ⟨rfl, rfl⟩
  by_cases h11 : t = 11
  · subst h11; refine key 6 rfl ?_; clear key; go_enter Tryd.func21, Tryd.ntmps21; go_wp2; go_ret; exact ⟨rfl, rfl⟩
  refine key 0 (by unfold leastN; simp [h2, h4, h6, h3, h5, h7, h10, h11]) ?_
  clear key
  have b2 : (t == 2) = false := by simpa using h2
  have b3 : (t == 3) = false := by simpa using h3
  have b4 : (t == 4) = false := by simpa using h4
  have b5 : (t == 5) = false := by simpa using h5
  have b6 : (t == 6) = false := by simpa using h6
  have b7 : (t == 7) = false := by simpa using h7
  have b10 : (t == 10) = false := by simpa using h10
  have b11 : (t == 11) = false := by simpa using h11
  clear h2 h3 h4 h5 h6 h7 h10 h11
  go_enter Tryd.func21, Tryd.ntmps21
  go_wp2
  go_ret
  exact ⟨rfl, rfl⟩
end Go.Proofs.YtjfmahodbdianaaDoor.Dict
