/-
  Contract: the reference's Same.
-/
import Derived.Test.YtjfponhdlfhmbaaAvpsO
import Derived.Deep.DeepMust
namespace Go.Proofs.Ytjfponhdlfhmbaa.Avp
open Go.RowKit Mem Cells Avps Wire Ops
set_option linter.unusedVariables false
set_option linter.unusedSimpArgs false

theorem string23 {w : World} {v : Value} {xs : List Int} (hr : Reads .u8 w v xs) : (convert 23 9 v).run Try.prog w = .ok (.string (strOfNums xs)) w :=
  run_string 23 9 5 Try.underlying23 Try.underlying5 Try.underlying9 hr
theorem str_list (xs : List Int) (h : ∀ x ∈ xs, 0 ≤ x ∧ x ≤ 255) : (strOfNums xs).toList.map (fun c : UInt8 => (c.toNat : Int)) = xs := by
  rw [ByteArray.toList_eq, strOfNums_data, List.map_map]
  conv => rhs; rw [← List.map_id xs]
  refine List.map_congr_left fun x hx => ?_
  have := h x hx
  simp only [Function.comp, id]
  rw [show (UInt8.ofNat x.toNat).toNat = x.toNat % 256 from rfl, Nat.mod_eq_of_lt (by omega)]
  omega
theorem str_eq (xs ys : List Int) (hx : ∀ x ∈ xs, 0 ≤ x ∧ x ≤ 255) (hy : ∀ x ∈ ys, 0 ≤ x ∧ x ≤ 255) : ((strOfNums xs).toList == (strOfNums ys).toList) = decide (xs = ys) := by
  by_cases h : xs = ys
  · subst h; simp
  · rw [decide_eq_false h, beq_eq_false_iff_ne]
    intro e
    exact h (by rw [← str_list xs hx, ← str_list ys hy, e])
set_option maxRecDepth 100000 in
theorem same_0 (a b : A) (d d' : Value) (w : World) (ha : Reads .u8 w d a.data) (hb : Reads .u8 w d' b.data) (h0 : (a.code == b.code) = false) :
    Calls Try.prog 26 #[.agg (row a d).toArray, .agg (row b d').toArray] w fun e w' => e = .returned (.bool false) ∧ Below w.heap.size w w' := by
  go_enter Try.func26, Try.ntmps26
  go_wp2_with (first
    | ((with_reducible refine wpl_boxAt rfl 41 (.tmp 0) rfl (row a d).toArray ?_ ?_); rfl; go_must (intro w1 hat1 hb1 hs1; have HS1 := Lib.hid hs1; clear hs1))
    | ((with_reducible refine wpl_boxAt rfl 41 (.tmp 1) rfl (row b d').toArray ?_ ?_); rfl; go_must (intro w2 hat2 hb2 hs2; have HS2 := Lib.hid hs2; clear hs2; have hb12 := hb1.trans (hb2.mono hb1.size); have hat12 := hat1.ext hb2; have c10 := hat12.cell 0; have c20 := hat2.cell 0; simp [row] at c10 c20; have HA1 := Lib.hid hat2; have HA2 := Lib.hid hat12; clear ha hb hat1 hb1 hb2 hat2 hat12)))
  go_ret
  exact ⟨rfl, hb12⟩
set_option maxRecDepth 100000 in
theorem same_1 (a b : A) (d d' : Value) (w : World) (ha : Reads .u8 w d a.data) (hb : Reads .u8 w d' b.data) (h0 : (a.code == b.code) = true) (h1 : (a.vendor == b.vendor) = false) :
    Calls Try.prog 26 #[.agg (row a d).toArray, .agg (row b d').toArray] w fun e w' => e = .returned (.bool false) ∧ Below w.heap.size w w' := by
  go_enter Try.func26, Try.ntmps26
  go_wp2_with (first
    | ((with_reducible refine wpl_boxAt rfl 41 (.tmp 0) rfl (row a d).toArray ?_ ?_); rfl; go_must (intro w1 hat1 hb1 hs1; have HS1 := Lib.hid hs1; clear hs1))
    | ((with_reducible refine wpl_boxAt rfl 41 (.tmp 1) rfl (row b d').toArray ?_ ?_); rfl; go_must (intro w2 hat2 hb2 hs2; have HS2 := Lib.hid hs2; clear hs2; have hb12 := hb1.trans (hb2.mono hb1.size); have hat12 := hat1.ext hb2; have c10 := hat12.cell 0; have c20 := hat2.cell 0; have c11 := hat12.cell 1; have c21 := hat2.cell 1; simp [row] at c10 c20 c11 c21; have HA1 := Lib.hid hat2; have HA2 := Lib.hid hat12; clear ha hb hat1 hb1 hb2 hat2 hat12)))
  go_ret
  exact ⟨rfl, hb12⟩
set_option maxRecDepth 100000 in
theorem same_2 (a b : A) (d d' : Value) (w : World) (ha : Reads .u8 w d a.data) (hb : Reads .u8 w d' b.data) (h0 : (a.code == b.code) = true) (h1 : (a.vendor == b.vendor) = true) (h2 : (a.must == b.must) = false) :
    Calls Try.prog 26 #[.agg (row a d).toArray, .agg (row b d').toArray] w fun e w' => e = .returned (.bool false) ∧ Below w.heap.size w w' := by
  go_enter Try.func26, Try.ntmps26
  go_wp2_with (first
    | ((with_reducible refine wpl_boxAt rfl 41 (.tmp 0) rfl (row a d).toArray ?_ ?_); rfl; go_must (intro w1 hat1 hb1 hs1; have HS1 := Lib.hid hs1; clear hs1))
    | ((with_reducible refine wpl_boxAt rfl 41 (.tmp 1) rfl (row b d').toArray ?_ ?_); rfl; go_must (intro w2 hat2 hb2 hs2; have HS2 := Lib.hid hs2; clear hs2; have hb12 := hb1.trans (hb2.mono hb1.size); have hat12 := hat1.ext hb2; have c10 := hat12.cell 0; have c20 := hat2.cell 0; have c11 := hat12.cell 1; have c21 := hat2.cell 1; have c12 := hat12.cell 2; have c22 := hat2.cell 2; simp [row] at c10 c20 c11 c21 c12 c22; have HA1 := Lib.hid hat2; have HA2 := Lib.hid hat12; clear ha hb hat1 hb1 hb2 hat2 hat12)))
  go_ret
  exact ⟨rfl, hb12⟩
set_option maxRecDepth 100000 in
theorem same_3 (a b : A) (d d' : Value) (w : World) (ha : Reads .u8 w d a.data) (hb : Reads .u8 w d' b.data) (h0 : (a.code == b.code) = true) (h1 : (a.vendor == b.vendor) = true) (h2 : (a.must == b.must) = true) (h3 : (a.prot == b.prot) = false) :
    Calls Try.prog 26 #[.agg (row a d).toArray, .agg (row b d').toArray] w fun e w' => e = .returned (.bool false) ∧ Below w.heap.size w w' := by
  go_enter Try.func26, Try.ntmps26
  go_wp2_with (first
    | ((with_reducible refine wpl_boxAt rfl 41 (.tmp 0) rfl (row a d).toArray ?_ ?_); rfl; go_must (intro w1 hat1 hb1 hs1; have HS1 := Lib.hid hs1; clear hs1))
    | ((with_reducible refine wpl_boxAt rfl 41 (.tmp 1) rfl (row b d').toArray ?_ ?_); rfl; go_must (intro w2 hat2 hb2 hs2; have HS2 := Lib.hid hs2; clear hs2; have hb12 := hb1.trans (hb2.mono hb1.size); have hat12 := hat1.ext hb2; have c10 := hat12.cell 0; have c20 := hat2.cell 0; have c11 := hat12.cell 1; have c21 := hat2.cell 1; have c12 := hat12.cell 2; have c22 := hat2.cell 2; have c13 := hat12.cell 3; have c23 := hat2.cell 3; simp [row] at c10 c20 c11 c21 c12 c22 c13 c23; have HA1 := Lib.hid hat2; have HA2 := Lib.hid hat12; clear ha hb hat1 hb1 hb2 hat2 hat12)))
  go_ret
  exact ⟨rfl, hb12⟩
set_option maxRecDepth 100000 in
theorem same_4 (a b : A) (d d' : Value) (w : World) (ha : Reads .u8 w d a.data) (hb : Reads .u8 w d' b.data) (h0 : (a.code == b.code) = true) (h1 : (a.vendor == b.vendor) = true) (h2 : (a.must == b.must) = true) (h3 : (a.prot == b.prot) = true) (h4 : ((strOfNums a.data).toList == (strOfNums b.data).toList) = false) :
    Calls Try.prog 26 #[.agg (row a d).toArray, .agg (row b d').toArray] w fun e w' => e = .returned (.bool false) ∧ Below w.heap.size w w' := by
  go_enter Try.func26, Try.ntmps26
  go_wp2_with (first
    | ((with_reducible refine wpl_boxAt rfl 41 (.tmp 0) rfl (row a d).toArray ?_ ?_); rfl; go_must (intro w1 hat1 hb1 hs1; have HS1 := Lib.hid hs1; clear hs1))
    | ((with_reducible refine wpl_boxAt rfl 41 (.tmp 1) rfl (row b d').toArray ?_ ?_); rfl; go_must (intro w2 hat2 hb2 hs2; have HS2 := Lib.hid hs2; clear hs2; have hb12 := hb1.trans (hb2.mono hb1.size); have hat12 := hat1.ext hb2; have e1 := string23 (ha.below hb12); have e2 := string23 (hb.below hb12); have c10 := hat12.cell 0; have c20 := hat2.cell 0; have c11 := hat12.cell 1; have c21 := hat2.cell 1; have c12 := hat12.cell 2; have c22 := hat2.cell 2; have c13 := hat12.cell 3; have c23 := hat2.cell 3; have c14 := hat12.cell 4; have c24 := hat2.cell 4; simp [row] at c10 c20 c11 c21 c12 c22 c13 c23 c14 c24; have HA1 := Lib.hid hat2; have HA2 := Lib.hid hat12; clear ha hb hat1 hb1 hb2 hat2 hat12)))
  go_ret
  exact ⟨rfl, hb12⟩
set_option maxRecDepth 100000 in
theorem same_5 (a b : A) (d d' : Value) (w : World) (ha : Reads .u8 w d a.data) (hb : Reads .u8 w d' b.data) (h0 : (a.code == b.code) = true) (h1 : (a.vendor == b.vendor) = true) (h2 : (a.must == b.must) = true) (h3 : (a.prot == b.prot) = true) (h4 : a.data = b.data) :
    Calls Try.prog 26 #[.agg (row a d).toArray, .agg (row b d').toArray] w fun e w' => e = .returned (.bool true) ∧ Below w.heap.size w w' := by
  rw [← h4] at hb
  clear h4
  go_enter Try.func26, Try.ntmps26
  go_wp2_with (first
    | ((with_reducible refine wpl_boxAt rfl 41 (.tmp 0) rfl (row a d).toArray ?_ ?_); rfl; go_must (intro w1 hat1 hb1 hs1; have HS1 := Lib.hid hs1; clear hs1))
    | ((with_reducible refine wpl_boxAt rfl 41 (.tmp 1) rfl (row b d').toArray ?_ ?_); rfl; go_must (intro w2 hat2 hb2 hs2; have HS2 := Lib.hid hs2; clear hs2; have hb12 := hb1.trans (hb2.mono hb1.size); have hat12 := hat1.ext hb2; have e1 := string23 (ha.below hb12); have e2 := string23 (hb.below hb12); have c10 := hat12.cell 0; have c20 := hat2.cell 0; have c11 := hat12.cell 1; have c21 := hat2.cell 1; have c12 := hat12.cell 2; have c22 := hat2.cell 2; have c13 := hat12.cell 3; have c23 := hat2.cell 3; have c14 := hat12.cell 4; have c24 := hat2.cell 4; simp [row] at c10 c20 c11 c21 c12 c22 c13 c23 c14 c24; have HA1 := Lib.hid hat2; have HA2 := Lib.hid hat12; clear ha hb hat1 hb1 hb2 hat2 hat12)))
  go_ret
  exact ⟨rfl, hb12⟩
/-- The reference's Same: are they the same? -/
theorem same (a b : A) (d d' : Value) (w : World) (ha : Reads .u8 w d a.data) (hb : Reads .u8 w d' b.data) (oa : a.ok) (ob : b.ok) :
    Calls Try.prog 26 #[.agg (row a d).toArray, .agg (row b d').toArray] w fun e w' => e = .returned (.bool (decide (a = b))) ∧ Below w.heap.size w w' := by
  have key : ∀ x : Bool, decide (a = b) = x → (Calls Try.prog 26 #[.agg (row a d).toArray, .agg (row b d').toArray] w fun e w' => e = .returned (.bool x) ∧ Below w.heap.size w w') → Calls Try.prog 26 #[.agg (row a d).toArray, .agg (row b d').toArray] w fun e w' => e = .returned (.bool (decide (a = b))) ∧ Below w.heap.size w w' := fun x hx h => by rw [hx]; exact h
  by_cases h0 : a.code = b.code
  · by_cases h1 : a.vendor = b.vendor
    · by_cases h2 : a.must = b.must
      · by_cases h3 : a.prot = b.prot
        · by_cases h4 : a.data = b.data
          · refine key true (decide_eq_true ?_) (same_5 a b d d' w ha hb (by simp [h0]) (by simp [h1]) (by simp [h2]) (by simp [h3]) h4)
            cases a; cases b; simp_all
          · exact key false (decide_eq_false fun e => h4 (by rw [e])) (same_4 a b d d' w ha hb (by simp [h0]) (by simp [h1]) (by simp [h2]) (by simp [h3]) (by rw [str_eq _ _ oa.2.2 ob.2.2]; simpa using h4))
        · exact key false (decide_eq_false fun e => h3 (by rw [e])) (same_3 a b d d' w ha hb (by simp [h0]) (by simp [h1]) (by simp [h2]) (by simpa using h3))
      · exact key false (decide_eq_false fun e => h2 (by rw [e])) (same_2 a b d d' w ha hb (by simp [h0]) (by simp [h1]) (by simpa using h2))
    · exact key false (decide_eq_false fun e => h1 (by rw [e])) (same_1 a b d d' w ha hb (by simp [h0]) (by simpa using h1))
  · exact key false (decide_eq_false fun e => h0 (by rw [e])) (same_0 a b d d' w ha hb (by simpa using h0))
end Go.Proofs.Ytjfponhdlfhmbaa.Avp
