/-
  What rules say of attributes (plain); the form of the answer; contract: dict.own.
-/
import Derived.Test.YtjfmahodbdianaaDoorDict2
import Derived.Test.YtjfmahodbdianaaDoorCount0
namespace Go.Proofs.YtjfmahodbdianaaDoor.Dict
open Go.RowKit Mem Cells Ops Rule Avps
set_option linter.unusedVariables false
set_option linter.unusedSimpArgs false

/-! Plain. -/
def ruleOf (rs : List R) (x : A) : Option R := rs.find? (hitR x.code x.vendor)
/-- What is said of the attribute x, behind those of pre. -/
def oneV (fit : Int → List Int → Int) (rs : List R) (pre : List A) (x : A) : Int :=
  match ruleOf rs x with
  | none => judgeN x.must
  | some r => judgeR fit r x.data (cntN (pre ++ [x]) x.code x.vendor)
def oneAt (fit : Int → List Int → Int) (rs : List R) (l : List A) (k : Nat) : Int :=
  match l[k]? with
  | none => 2001
  | some x => oneV fit rs (l.take k) x
def lacks (l : List A) (r : R) : Bool := decide ((cntN l r.code r.vendor : Int) < r.least)
def lackA (r : R) : A := ⟨r.code, r.vendor, r.must, false, List.replicate (leastN r.type).toNat 0⟩
/-- What is answered. -/
noncomputable def verdict (fit : Int → List Int → Int) (rs : List R) (l : List A) : Int × List A × Int :=
  if ¬ sound rs then (0, [], 2) else
  match (List.range l.length).find? (fun k => oneAt fit rs l k != 2001) with
  | some k => (oneAt fit rs l k, l[k]?.toList, 0)
  | none =>
    match rs.find? (lacks l) with
    | some r => (5005, [lackA r], 0)
    | none => (2001, [], 0)
theorem verdict_form {fit : Int → List Int → Int} {rs : List R} {l : List A} (h : ¬ sound rs) : verdict fit rs l = (0, [], 2) := by unfold verdict; rw [if_pos h]
theorem verdict_bad {fit : Int → List Int → Int} {rs : List R} {l : List A} {k : Nat} {x : A} {n : Int} (h : sound rs) (hx : l[k]? = some x) (h0 : ∀ j, j < k → oneAt fit rs l j = 2001) (h1 : oneAt fit rs l k = n) (h2 : n ≠ 2001) : verdict fit rs l = (n, [x], 0) := by
  have hk : k < l.length := (List.getElem?_eq_some_iff.1 hx).1
  have e : (List.range l.length).find? (fun k => oneAt fit rs l k != 2001) = some k := by
    rw [List.find?_range_eq_some]
    refine ⟨by rw [h1]; simpa using h2, by simpa using hk, fun j hj => by simp [h0 j hj]⟩
  unfold verdict
  rw [if_neg (by simpa using h), e]
  simp only [h1, hx]
  rfl
theorem verdict_lack {fit : Int → List Int → Int} {rs : List R} {l : List A} {k : Nat} {r : R} (h : sound rs) (h0 : ∀ j, j < l.length → oneAt fit rs l j = 2001) (hx : rs[k]? = some r) (h1 : ∀ j x, j < k → rs[j]? = some x → lacks l x = false) (h2 : lacks l r = true) : verdict fit rs l = (5005, [lackA r], 0) := by
  have e : (List.range l.length).find? (fun k => oneAt fit rs l k != 2001) = none := by
    rw [List.find?_eq_none]
    intro j hj
    rw [h0 j (by simpa using hj)]
    simp
  have hk : k < rs.length := (List.getElem?_eq_some_iff.1 hx).1
  have e2 : rs.find? (lacks l) = some r := by
    rw [List.find?_eq_some_iff_getElem]
    refine ⟨h2, k, hk, (List.getElem?_eq_some_iff.1 hx).2, fun j hj => ?_⟩
    rw [h1 j rs[j] hj (List.getElem?_eq_getElem _)]
    rfl
  unfold verdict
  rw [if_neg (by simpa using h), e]
  simp only [e2]
theorem verdict_fine {fit : Int → List Int → Int} {rs : List R} {l : List A} (h : sound rs) (h0 : ∀ j, j < l.length → oneAt fit rs l j = 2001) (h1 : ∀ (j : Nat) (x : R), rs[j]? = some x → lacks l x = false) : verdict fit rs l = (2001, [], 0) := by
  have e : (List.range l.length).find? (fun k => oneAt fit rs l k != 2001) = none := by
    rw [List.find?_eq_none]
    intro j hj
    rw [h0 j (by simpa using hj)]
    simp
  have e2 : rs.find? (lacks l) = none := by
    rw [List.find?_eq_none]
    intro r hr
    obtain ⟨j, hj⟩ := List.getElem?_of_mem hr
    rw [h1 j r hj]
    simp
  unfold verdict
  rw [if_neg (by simpa using h), e]
  simp only [e2]

/-! The failed attributes, as they are answered: none, or one of the call's own. -/
def FailIs (B : Nat) (w : World) (v : Value) (F : List A) : Prop :=
  match F with
  | [] => v = .slice none 0 0
  | x :: _ => ∃ g d, v = .slice (some ⟨g, 0, none⟩) 1 1 ∧ B ≤ g ∧ At w g 35 (row x d).toArray ∧ Row .u8 5 B w d x.data
theorem FailIs.below {B : Nat} {w w' : World} {v : Value} {F : List A} (h : FailIs B w v F) (hb : Below w.heap.size w w') : FailIs B w' v F := by
  cases F with
  | nil => exact h
  | cons x l =>
    obtain ⟨g, d, h1, h2, h3, h4⟩ := h
    exact ⟨g, d, h1, h2, h3.ext hb, h4.below hb⟩
def attrP (B : Nat) (x : A) : Mono.Prp := ⟨fun v w => ∃ d, v = .agg (row x d).toArray ∧ Row .u8 5 B w d x.data, fun _ _ _ ⟨d, h1, h2⟩ hb => ⟨d, h1, h2.below hb⟩⟩
def failP (B : Nat) (x : A) : Mono.Prp := ⟨fun v w => FailIs B w v [x], fun _ _ _ h hb => h.below hb⟩
def rowP (B : Nat) (xs : List Int) : Mono.Prp := ⟨fun v w => Row .u8 5 B w v xs, fun _ _ _ h hb => h.below hb⟩
theorem failOne {B : Nat} {w : World} {x : A} {d : Value} (h : Row .u8 5 B w d x.data) (hB : B ≤ w.heap.size) : FailIs B (w.alloc (.cells (row x d).toArray 35)) (.slice (some ⟨w.heap.size, 0, none⟩) 1 1) [x] :=
  ⟨w.heap.size, d, rfl, hB, At.new w 35 _, h.below ((Below.refl w.heap.size w).alloc (Nat.le_refl _) _)⟩
/-- A row that is made. -/
theorem make (t : Int) (B : Nat) (w : World) (hB : B ≤ w.heap.size) : ∃ v w', (Instr.makeSlice 32 (.int .i64 (leastN t)) (.int .i64 (leastN t))).run Tryd.prog w = .ok v w' ∧ Below w.heap.size w w' ∧ Row .u8 5 B w' v (List.replicate (leastN t).toNat 0) := by
  obtain ⟨i0, hi, hz0, hz1, hz2⟩ := info_parts Wire.info5
  obtain ⟨n, hn, hn8⟩ : ∃ n : Nat, leastN t = n ∧ n ≤ 8 := by
    unfold leastN
    split
    · exact ⟨4, rfl, by omega⟩
    split
    · exact ⟨8, rfl, by omega⟩
    split
    · exact ⟨1, rfl, by omega⟩
    split
    · exact ⟨6, rfl, by omega⟩
    · exact ⟨0, rfl, by omega⟩
  rw [hn]
  obtain ⟨w', h1, h2, h3⟩ := run_make_full (P := Tryd.prog) w B 32 5 i0 (.int .u8 0) 1 Tryd.underlying32 hi hz0 hz1 .i64 .i64 n (by rw [hz2]; omega) (by unfold maxLen; omega) hB
  refine ⟨_, _, h1, (Below.refl w.heap.size w).grown h3 (Nat.le_refl _) (fun k e => by cases e), ?_⟩
  have e : (madeCells (Value.int .u8 0).cells (n * 1)).toList = (List.replicate n (0 : Int)).map (Value.int .u8) := by
    rw [Nat.mul_one, List.map_replicate]
    exact toList_madeCells_one _ _
  rw [e] at h2
  show w'.ownsRow B 5 1 _ (List.replicate ((n : Int)).toNat (0 : Int)).length _
  rw [Int.toNat_natCast, List.length_replicate]
  exact h2
/-- An attribute that shares nothing. -/
def OwnIs (w : World) (x : A) (e : Ending) (w' : World) : Prop := ∃ d, e = .returned (.agg (row x d).toArray) ∧ Row .u8 5 w.heap.size w' d x.data ∧ Below w.heap.size w w'
set_option maxRecDepth 100000 in
theorem own (x : A) (p : Option Addr) (m c : Nat) (w : World) (hr : Reads .u8 w (.slice p m c) x.data) (hl : x.data.length ≤ 140737488355328) :
    Calls Tryd.prog 20 #[.agg (row x (.slice p m c)).toArray] w (OwnIs w x) := by
  have PC := Lib.hid (fun u (hu : Below w.heap.size w u) => Wire.clone _ x.data u (hr.below hu) hl)
  clear hr hl
  go_enter Tryd.func20, Tryd.ntmps20
  go_wp2_with (first
    | ((with_reducible refine wpl_boxAt rfl 35 (.tmp 0) rfl (row x (.slice p m c)).toArray ?_ ?_); rfl; go_must (intro w1 hat hb hs; clear hs))
    | ((with_reducible refine wpl_allocAt rfl 35 rfl #[.int .u32 0, .int .u32 0, .bool false, .bool false, .slice none 0 0] (by kernel_rfl) ?_); go_must (intro w2 hat2 hb2 hs; clear hs; have hat1 := hat.ext hb2; have hb3 := hb.trans (hb2.mono hb.size); have c4 := hat1.cell 4; simp [row] at c4; have hne : w.heap.size ≠ w1.heap.size := Nat.ne_of_lt hat.lt; have hL1 := hat.lt; have hL2 := hat2.lt; clear hat hb hb2))
    | (go_at_call 25; go_must (refine (PC.out _ hb3).mono ?_; rintro e u ⟨d, rfl, hrow, hbu⟩; have hb4 := hb3.trans (hbu.mono hb3.size); have hat3 := hat1.ext hbu; have hat4 := hat2.ext hbu; obtain ⟨pd, cd, rfl, kk1, kk2, kk3, kk4⟩ := hrow.reads; clear kk1 kk2 kk3 kk4; clear hat1 hat2 c4 hb3 PC))
    | (refine wpl_storeC rfl 32 (.tmp 6) (.tmp 5) rfl rfl w.heap.size 4 35 (row x (.slice p m c)).toArray (row x (.slice pd x.data.length cd)).toArray (.slice pd x.data.length cd) rfl rfl hat3 (show (4 : Nat) < 5 by decide) (by kernel_rfl) rfl rfl ?_; go_must (intro w5 hat5 hg5; have hb5 := hb4.grown hg5 hb4.size (fun q e => by cases e; exact Nat.le_refl _); have hat6 := hat4.grown hg5 hne.symm; have hrow5 : Row .u8 5 w2.heap.size w5 (.slice pd x.data.length cd) x.data := World.ownsRow.kept hrow hg5 (.inr (fun e => by have := (World.ownsRow.lt hrow _ e).1; omega)); clear hat3 hat4 hg5 hb4))
    | ((with_reducible refine wpl_loadAt rfl 35 (.tmp 1) rfl w.heap.size 35 (row x (.slice pd x.data.length cd)).toArray hat5 _ Tryd.underlying35 rfl (by kernel_rfl) ?_ ?_); rfl)
    | ((with_reducible refine wpl_storeR rfl 35 (.tmp 2) (.tmp 7) rfl rfl w1.heap.size 35 _ (row x (.slice pd x.data.length cd)).toArray ?_ ?_ hat6 (by kernel_rfl) ?_ ?_ ?_); rfl; rfl; rfl; (simp [row, Value.oneCell']); go_must (intro w7 hat7 hg7; have hrow7 : Row .u8 5 w.heap.size w7 (.slice pd x.data.length cd) x.data := (Row.mono (World.ownsRow.kept hrow5 hg7 (.inr (fun e => by have := (World.ownsRow.lt hrow5 _ e).1; omega))) (by omega)); have hb7 := hb5.grown hg7 hb5.size (fun q e => by have e' : w1.heap.size = q := Option.some.inj e; omega))))
  exact end_cell (p := 2) (by kernel_rfl) rfl hat7 Tryd.underlying35 rfl (by kernel_rfl) rfl ⟨_, rfl, hrow7, hb7⟩
end Go.Proofs.YtjfmahodbdianaaDoor.Dict
