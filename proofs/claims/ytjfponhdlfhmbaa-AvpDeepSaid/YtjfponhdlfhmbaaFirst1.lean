/-
  avp.first: the plain law; small contracts; how a call ends that answers a struct out of its cell and two values more.
-/
import Derived.Test.YtjfponhdlfhmbaaAvps
import Derived.Test.YtjfponhdlfhmbaaRef1
import Derived.Test.YtjfponhdlfhmbaaWire3
import Derived.StillTailTactics
namespace Go.Proofs.Ytjfponhdlfhmbaa.Avp
open Go.RowKit Mem Cells Avps Wire
set_option linter.unusedVariables false
set_option linter.unusedSimpArgs false

def zeroA : A := ⟨0, 0, false, false, []⟩
/-- Has the first attribute a vendor? -/
def vend (xs : List Int) : Bool := decide (128 ≤ xs.getD 4 0)
def headN (b : Bool) : Int := if b then 12 else 8
def lenN (xs : List Int) : Int := getN xs 5 3
/-- Why there is no first attribute: 0 if there is. -/
def oneE (xs : List Int) : Int :=
  if (xs.length : Int) < 8 ∨ (vend xs = true ∧ (xs.length : Int) < 12) then 3
  else if lenN xs < headN (vend xs) then 2
  else if (xs.length : Int) < lenN xs + padN (lenN xs) then 3
  else if vend xs = true ∧ getN xs 8 4 = 0 then 2 else 0
def oneA (xs : List Int) : A :=
  if oneE xs = 0 then ⟨getN xs 0 4, if vend xs then getN xs 8 4 else 0, decide (xs.getD 4 0 / 64 % 2 = 1), decide (xs.getD 4 0 / 32 % 2 = 1), (xs.drop (headN (vend xs)).toNat).take (lenN xs - headN (vend xs)).toNat⟩ else zeroA
def oneN (xs : List Int) : Int := if oneE xs = 0 then lenN xs + padN (lenN xs) else 0

theorem and128 (x : Int) (h : 0 ≤ x ∧ x ≤ 255) : decide (0 < bits .and .u8 x 128) = decide (128 ≤ x) := by
  obtain ⟨n, rfl⟩ := Int.eq_ofNat_of_zero_le h.1
  have key : (List.range 256).all (fun n : Nat => decide (0 < bits .and .u8 (n : Int) 128) == decide ((128 : Int) ≤ n)) = true := by kernel_rfl
  have := List.all_eq_true.1 key n (List.mem_range.2 (by omega))
  simpa using this
theorem and64 (x : Int) (h : 0 ≤ x ∧ x ≤ 255) : decide (0 < bits .and .u8 x 64) = decide (x / 64 % 2 = 1) := by
  obtain ⟨n, rfl⟩ := Int.eq_ofNat_of_zero_le h.1
  have key : (List.range 256).all (fun n : Nat => decide (0 < bits .and .u8 (n : Int) 64) == decide ((n : Int) / 64 % 2 = 1)) = true := by kernel_rfl
  have := List.all_eq_true.1 key n (List.mem_range.2 (by omega))
  simpa using this
theorem and32 (x : Int) (h : 0 ≤ x ∧ x ≤ 255) : decide (0 < bits .and .u8 x 32) = decide (x / 32 % 2 = 1) := by
  obtain ⟨n, rfl⟩ := Int.eq_ofNat_of_zero_le h.1
  have key : (List.range 256).all (fun n : Nat => decide (0 < bits .and .u8 (n : Int) 32) == decide ((n : Int) / 32 % 2 = 1)) = true := by kernel_rfl
  have := List.all_eq_true.1 key n (List.mem_range.2 (by omega))
  simpa using this

theorem head (b : Bool) (w : World) : Calls Try.prog 21 #[.bool b] w fun e w' => e = .returned (.int .i64 (headN b)) ∧ w' = w := by
  cases b
  all_goals
    go_enter Try.func21, Try.ntmps21
    go_wp2
    go_ret
    exact ⟨rfl, rfl⟩
theorem bit (b : Bool) (x : Int) (w : World) (h : 0 ≤ x ∧ x ≤ 255) : Calls Try.prog 20 #[.bool b, .int .u8 x] w fun e w' => e = .returned (.int .u8 (if b then x else 0)) ∧ w' = w := by
  cases b
  all_goals
    go_enter Try.func20, Try.ntmps20
    go_wp2
    go_ret
    exact ⟨rfl, rfl⟩

section
variable {P : Program} {fn : Func} {p u x : Tmp} {a : Act} {w : World} {g : Nat} {ty : TypeId} {d : TypeDesc} {cs : Array Value} {c c' : Value} {R : Ending → World → Prop}
/-- A call that answers a struct out of its cell, and two values more. -/
theorem end_cell3 (h : fn.results = #[.cell p ty, .tmp u, .tmp x]) (hp : a.tmps.getD p undef = .pointer (some ⟨g, 0, none⟩)) (hat : At w g ty cs)
    (hu : P.underlying ty = some d) (hd : (match d with | .struct _ | .array _ _ => true | _ => false) = true) (hi : (P.info? ty).map (·.size) = some cs.size)
    (hc : a.tmps.getD u undef = c) (hc' : a.tmps.getD x undef = c') (hdf : a.defers = []) (hR : R (.returned (.tuple #[.agg cs, c, c'])) w) : bodyPost P fn R Exit.ret a w := by
  refine ⟨hdf, _, ?_, hR⟩
  have e : (results fn a.tmps).run P w = ((asAddr (a.tmps.getD p undef)).run P w).andThen fun y w₁ => ((loadVar ty y).run P w₁).andThen fun v w₂ => .ok (.tuple #[v, a.tmps.getD u undef, a.tmps.getD x undef]) w₂ := by
    simp only [results, h]
    simp [Sem.run_bind, Result.andThen]
  rw [e, hp, hc, hc']
  simp only [asAddr]
  rw [show (Sem.run P (pure (⟨g, 0, none⟩ : Addr)) w) = .ok ⟨g, 0, none⟩ w from rfl]
  show ((loadVar ty ⟨g, 0, none⟩).run P w).andThen _ = _
  rw [run_loadVar_row w g ty ty _ (0, 0) _ hat hu hd hi]
  rfl
end

/-- What first answers. -/
def FirstIs (w : World) (xs : List Int) (e : Ending) (w' : World) : Prop :=
  ∃ d, e = .returned (.tuple #[.agg (row (oneA xs) d).toArray, .int .i64 (oneN xs), .int .i64 (oneE xs)]) ∧ Reads .u8 w' d (oneA xs).data ∧ (0 < (oneA xs).data.length → ∃ k, d.ownBlock = some k ∧ w.heap.size ≤ k) ∧ Below w.heap.size w w'
abbrev zeroRow : Array Value := #[.int .u32 0, .int .u32 0, .bool false, .bool false, .slice none 0 0]
theorem FirstIs.none {w w' : World} {xs : List Int} {E : Int} {e : Ending} (hE : oneE xs = E) (h0 : E ≠ 0) (he : e = .returned (.tuple #[.agg zeroRow, .int .i64 0, .int .i64 E])) (hb : Below w.heap.size w w') : FirstIs w xs e w' := by
  have h : oneE xs ≠ 0 := hE ▸ h0
  refine ⟨.slice Option.none 0 0, ?_, ?_, ?_, hb⟩
  · rw [he, hE]; unfold oneN oneA; rw [if_neg h, if_neg h]; rfl
  · unfold oneA; rw [if_neg h]; exact Reads.sub0
  · unfold oneA; rw [if_neg h]; intro h; simp [zeroA] at h

theorem first_short (v : Value) (xs : List Int) (w : World) (hr : Reads .u8 w v xs) (hE : (xs.length : Int) < 8 ) : Calls Try.prog 25 #[v] w (FirstIs w xs) := by
  have e1 : oneE xs = 3 := by unfold oneE; rw [if_pos (.inl hE)]
  obtain ⟨p, c, rfl, k1, k2, _, _⟩ := hr
  have h0 := At.new w 41 zeroRow
  have hb := (Below.refl w.heap.size w).alloc (Nat.le_refl _) (.cells zeroRow 41)
  have HE := Lib.hid e1
  clear e1
  go_enter Try.func25, Try.ntmps25
  go_wp2_with (refine wpList_store_row rfl 41 _ _ rfl w.heap.size zeroRow rfl rfl 41 _ h0 (by kernel_rfl) rfl (by simp [Value.oneCell']) ?_)
  exact end_cell3 (p := 2) (u := 3) (x := 4) (by kernel_rfl) rfl h0.row Try.underlying41 rfl (by kernel_rfl) rfl rfl rfl (FirstIs.none HE.out (by decide) rfl (below_setRow hb (Nat.le_refl _) _))
end Go.Proofs.Ytjfponhdlfhmbaa.Avp
