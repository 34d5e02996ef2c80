/-
  Several texts in one: Mem, MemS, Mono, MonoT, MonoU, MonoJ, Prps, Cells, Ops, OpsW, StillRow, Reg, Open, Open2.
-/
import Derived.Test.YteiiifonejkjbaaFrame
import Derived.Laws.AppendOwnNone
import Derived.Lib.AppendZerosOnto
import Derived.WalkLawsBesides
import Derived.WalkSpells
import Derived.Orders
import Derived.StillTail
import Derived.Laws.Tables
import Derived.Laws.StructEq
import Derived.Laws.CopyOwn
import Derived.Deep.MidRow
import Derived.StillTailTactics
import Derived.Deep.Strs
/-
  ROWS OF NUMBERS IN MEMORY: what a slice of integers reads as (Reads), what a slice of the call's own holds (Row); append onto such a row, make, conversion to a text. No program is looked into here.
-/
namespace Go.Proofs.Yteiiifonejkjbaa.Mem
open Go.RowKit
set_option linter.unusedVariables false

/-- The slice v reads as the numbers xs, in the world w. -/
def Reads (k : IntKind) (w : World) (v : Value) (xs : List Int) : Prop :=
  ∃ p c, v = .slice p xs.length c ∧ xs.length ≤ c ∧ c ≤ maxLen ∧ (p = none → c = 0) ∧
    (0 < xs.length → ∃ b off, p = some ⟨b, off, none⟩ ∧ b < w.heap.size ∧ ∀ i, i < xs.length → w.cell? ⟨b, off + i, none⟩ = some (.int k (xs.getD i 0)))

/-- The slice v is the call's own (its block's number is B or greater) and holds the numbers xs. -/
abbrev Row (k : IntKind) (e : TypeId) (B : Nat) (w : World) (v : Value) (xs : List Int) : Prop := w.ownsRow B e 1 v xs.length (xs.map (Value.int k))

theorem isRow_reads {k : IntKind} {w : World} {a : Option Addr} {len cap : Nat} {zs : List Int} (h : Frame.IsRow k w a len cap zs) :
    Reads k w (.slice a len cap) (zs.take len) ∧ (zs.take len).length = len ∧ ∀ n ∈ zs.take len, (Lit.int k n).wf = true := by
  rcases h with ⟨rfl, rfl, rfl, rfl⟩ | ⟨b, off, s, rfl, h1, h2, h3, h4, h5, h6⟩
  · exact ⟨⟨none, 0, rfl, by simp, by simp, fun _ => rfl, fun h => by simp at h⟩, rfl, fun n h => by cases h⟩
  · have hl : (zs.take len).length = len := by rw [List.length_take]; omega
    refine ⟨⟨some ⟨b, off, s⟩, cap, by rw [hl], by rw [hl]; exact h1, h2, (fun h => by cases h), fun h => ?_⟩, hl, fun n hn => h6 n (List.mem_of_mem_take hn)⟩
    rw [hl] at h ⊢
    obtain ⟨rfl, hb⟩ := h4 (by omega)
    refine ⟨b, off, rfl, hb, fun i hi => ?_⟩
    rw [h5 i (by omega)]
    simp [List.getD, hi]

theorem Reads.below {k : IntKind} {w w' : World} {v : Value} {xs : List Int} (h : Reads k w v xs) (hb : Below w.heap.size w w') : Reads k w' v xs := by
  obtain ⟨p, c, rfl, h1, h2, h3, h4⟩ := h
  refine ⟨p, c, rfl, h1, h2, h3, fun h0 => ?_⟩
  obtain ⟨b, off, rfl, hlt, hc⟩ := h4 h0
  exact ⟨b, off, rfl, Nat.lt_of_lt_of_le hlt hb.size, fun i hi => (hb.cell (p := ⟨b, off + i, none⟩) hlt).trans (hc i hi)⟩

theorem add_none (b o j : Nat) : (⟨b, o, none⟩ : Addr).add j = ⟨b, o + j, none⟩ := by unfold Addr.add; split <;> simp_all

theorem Row.reads {k : IntKind} {e B : Nat} {w : World} {v : Value} {xs : List Int} (h : Row k e B w v xs) : Reads k w v xs := by
  have hcells := fun g hg => h.cells (g := g) hg
  have hlt := h.lt
  obtain ⟨h0, ⟨rfl, hn⟩ | ⟨g, cap, cur, rfl, hb, hg, hle, hm, _⟩⟩ := h
  · exact ⟨none, 0, by rw [hn], by omega, by simp, fun _ => rfl, fun h => by omega⟩
  · refine ⟨_, cap, rfl, hle, hm, (fun h => by cases h), fun hp => ⟨g, 0, rfl, (hlt g rfl).2, fun i hi => ?_⟩⟩
    have := hcells g rfl i (.int k (xs.getD i 0)) (by simp [List.getD, List.getElem?_eq_getElem hi])
    rwa [add_none] at this

theorem Row.below {k : IntKind} {e B : Nat} {w w' : World} {v : Value} {xs : List Int} (h : Row k e B w v xs) (hb : Below w.heap.size w w') : Row k e B w' v xs := by
  refine ⟨h.1, ?_⟩
  rcases h.2 with hn | ⟨g, cap, cur, rfl, hbb, hgg, rest⟩
  · exact .inl hn
  · refine .inr ⟨g, cap, cur, rfl, hbb, ?_, rest⟩
    rw [hb.block g (Array.getElem?_eq_some_iff.1 hgg).1]
    exact hgg

theorem Row.mono {k : IntKind} {e B B' : Nat} {w : World} {v : Value} {xs : List Int} (h : Row k e B w v xs) (hB : B' ≤ B) : Row k e B' w v xs := by
  refine ⟨h.1, ?_⟩
  rcases h.2 with hn | ⟨g, cap, cur, rfl, hbb, rest⟩
  · exact .inl hn
  · exact .inr ⟨g, cap, cur, rfl, by omega, rest⟩

theorem Row.form {k : IntKind} {e B : Nat} {w : World} {p : Option Addr} {n c : Nat} {xs : List Int} (h : Row k e B w (.slice p n c) xs) (h0 : 0 < xs.length) : ∃ g, p = some ⟨g, 0, none⟩ ∧ n = xs.length ∧ B ≤ g ∧ g < w.heap.size := by
  have hlt := h.lt
  rcases h.2 with ⟨_, hn⟩ | ⟨g, cap, cur, hv, hb, _⟩
  · omega
  · cases hv
    exact ⟨g, rfl, rfl, hb, (hlt g rfl).2⟩
/-- A cell of such a row, and that it may be written. -/
theorem Row.cell {k : IntKind} {e B g c : Nat} {w : World} {xs : List Int} (h : Row k e B w (.slice (some ⟨g, 0, none⟩) xs.length c) xs) (j : Nat) (hj : j < xs.length) :
    w.cell? ⟨g, j, none⟩ = some (.int k (xs.getD j 0)) ∧ w.frozen? ⟨g, j, none⟩ = false := by
  refine ⟨?_, World.ownsRow.frozenAt h j⟩
  rw [World.ownsRow.cellAt h j (by omega)]
  simp [List.getD, hj]
/-- A store into such a row. -/
theorem Row.store {k : IntKind} {e B g c : Nat} {w : World} {xs : List Int} (h : Row k e B w (.slice (some ⟨g, 0, none⟩) xs.length c) xs) (j : Nat) (x : Int) :
    Row k e B (w.setCell ⟨g, j, none⟩ (.int k x)) (.slice (some ⟨g, 0, none⟩) xs.length c) (xs.set j x) := by
  have := (World.ownsRow.stored h j (.int k x)).1
  simpa [Row, List.map_set] using this
/-- Another row stays behind such a store. -/
theorem Row.store_other {k k' : IntKind} {e B e' B' g c : Nat} {w : World} {v : Value} {xs ys : List Int} (h : Row k e B w (.slice (some ⟨g, 0, none⟩) xs.length c) xs) (h' : Row k' e' B' w v ys) (hne : v.ownBlock ≠ some g) (j : Nat) (x : Int) :
    Row k' e' B' (w.setCell ⟨g, j, none⟩ (.int k x)) v ys :=
  World.ownsRow.kept h' (World.ownsRow.stored h j (.int k x)).2 (.inr hne)

/-- A new block of one number. -/
theorem Reads.one (k : IntKind) (w : World) (x : Int) (t : TypeId) : Reads k (w.alloc (.cells #[.int k x] t)) (.slice (some ⟨w.heap.size, 0, none⟩) 1 1) [x] := by
  refine ⟨_, 1, rfl, by simp, by simp [maxLen], (fun h => by cases h), fun _ => ⟨w.heap.size, 0, rfl, by simp, fun i hi => ?_⟩⟩
  have : i = 0 := by simp at hi; exact hi
  subst this
  simp

/-- A piece of what reads as numbers. -/
theorem Reads.sub {k : IntKind} {w : World} {p : Option Addr} {n c : Nat} {xs : List Int} (hr : Reads k w (.slice p n c) xs) (i j : Nat) (h : i + j ≤ xs.length) :
    Reads k w (.slice (Option.map (fun x => x.add i) p) j (c - i)) ((xs.drop i).take j) := by
  obtain ⟨p', c', e, h1, h2, h3, h4⟩ := hr
  cases e
  have hl : ((xs.drop i).take j).length = j := by simp; omega
  refine ⟨_, c - i, by rw [hl], by rw [hl]; omega, by omega, fun hp => ?_, fun h0 => ?_⟩
  · have : p = none := by cases p <;> simp_all
    have := h3 this
    omega
  · rw [hl] at h0 ⊢
    obtain ⟨b, off, rfl, hb, hc⟩ := h4 (by omega)
    refine ⟨b, off + i, by simp [add_none], hb, fun q hq => ?_⟩
    have := hc (i + q) (by omega)
    rw [Nat.add_assoc, this]
    simp [List.getD, hq]
theorem Reads.pre {k : IntKind} {w : World} {p : Option Addr} {n c : Nat} {xs : List Int} (hr : Reads k w (.slice p n c) xs) (i : Nat) (h : i ≤ xs.length) : Reads k w (.slice p i c) (xs.take i) := by
  obtain ⟨p', c', e, h1, h2, h3, h4⟩ := hr
  cases e
  have hl : (xs.take i).length = i := by simp; omega
  refine ⟨p, c, by rw [hl], by rw [hl]; omega, h2, h3, fun h0 => ?_⟩
  rw [hl] at h0 ⊢
  obtain ⟨b, off, rfl, hb, hc⟩ := h4 (by omega)
  exact ⟨b, off, rfl, hb, fun q hq => by rw [hc q (by omega)]; simp [List.getD, hq]⟩
theorem Reads.sub0 {k : IntKind} {w : World} {p : Option Addr} : Reads k w (.slice p 0 0) [] := ⟨p, 0, rfl, by simp, by simp, fun _ => rfl, fun h => by simp at h⟩

/-- A new block that is laid with numbers reads as them. -/
theorem Reads.alloc (k : IntKind) (w : World) (xs : List Int) (t : TypeId) (fr : Nat × Nat) (c : Nat) (h : xs.length ≤ c) (h' : c ≤ maxLen) : Reads k (w.alloc (.cells (xs.map (Value.int k)).toArray t fr)) (.slice (some ⟨w.heap.size, 0, none⟩) xs.length c) xs := by
  refine ⟨_, _, rfl, h, h', (fun h => by cases h), fun _ => ⟨_, _, rfl, by simp, fun i hi => ?_⟩⟩
  rw [cell_of_row (w.alloc _) w.heap.size (0 + i) (xs.map (Value.int k)).toArray t fr Array.getElem?_push_size]
  simp [hi]
/-- An empty slice in a new block. -/
theorem Row.alloc_nil (k : IntKind) (e : TypeId) (w : World) {B : Nat} (h : B ≤ w.heap.size) : Row k e B (w.alloc (.cells #[] e)) (.slice (some ⟨w.heap.size, 0, none⟩) 0 0) [] :=
  ⟨rfl, .inr ⟨w.heap.size, 0, #[], rfl, h, Array.getElem?_push_size, Nat.le_refl _, by decide, rfl, rfl⟩⟩

/-- A guarded operation that is wanted is walked as one without a guard. -/
theorem wpl_wanted {P : Program} {w : World} {ops : Array Oper} {rest : List Oper} {o : Oper} {a : Act} {Q : Exit → Act → World → Prop} (hw : Region.wanted o (yielded ops a.tmps) = true)
    (h : wpList P ops Q ({ o with guard := none } :: rest) a w) : wpList P ops Q (o :: rest) a w := by
  unfold wpList at h ⊢
  rw [if_pos hw]
  rw [if_pos (by simp [Region.wanted])] at h
  exact h

section
variable {P : Program} {w : World} {ops : Array Oper} {rest : List Oper} {o : Oper} {a : Act} {Q : Exit → Act → World → Prop}

/-- append(v, u...), v of the call's own, u whatever reads as numbers. -/
theorem wpl_append (hgd : o.guard = none) (s x : Operand) (t : TypeId) (ho : o.op = .call { callee := .builtin .append, args := #[s, x], argTypes := #[t, t] })
    (k : IntKind) (B e bytes : Nat) (i : TypeInfo) (z : Value) (ht : P.underlying t = some (.slice e)) (hi : P.info? e = some i) (hz : i.zero = some z) (hsize : i.size = 1) (hby : i.bytes = bytes) (hzs : z.cells.size = 1)
    (v u : Value) (xs ys : List Int) (hs : a.eval s = v) (hx : a.eval x = u) (hown : Row k e B w v xs) (hr : Reads k w u ys)
    (h63 : xs.length + ys.length ≤ maxLen) (hbytes : (xs.length + ys.length) * bytes ≤ 140737488355328) (hbase : B ≤ w.heap.size)
    (h : ∀ v' w', Row k e B w' v' (xs ++ ys) → w.grownBy w' v.ownBlock → wpList P ops Q rest (a.put o.dst v') w') : wpList P ops Q (o :: rest) a w := by
  obtain ⟨p, c, rfl, h1, h2, h3, h4⟩ := hr
  cases p with
  | none =>
    obtain rfl := h3 rfl
    have hy : ys = [] := List.eq_nil_of_length_eq_zero (by omega)
    subst hy
    exact wpList_append_own_none hgd s x t ho B e i 1 ht hi v xs.length _ hs hown hx (h v w (by rw [List.append_nil]; exact hown) ⟨rfl, rfl, rfl, Nat.le_refl _, fun _ _ _ => rfl⟩)
  | some ad =>
    refine wpList_append_own w hgd s x t ho B e i z 1 bytes ht hi hz hsize hby hzs (by omega) v xs.length _ hs hown ad ys.length c (ys.map (Value.int k)) hx (by simp) ?_ ?_ h63 hbytes hbase ?_
    · intro j q hj
      have hjl : j < ys.length := by
        rcases Nat.lt_or_ge j ys.length with h | h
        · exact h
        · simp [List.getElem?_eq_none (show (ys.map (Value.int k)).length ≤ j by simpa using h)] at hj
      obtain ⟨b, off, hp, _, hc⟩ := h4 (by omega)
      cases hp
      rw [add_none, hc j hjl]
      simp [List.getElem?_eq_getElem hjl] at hj
      subst hj
      simp [List.getD, List.getElem?_eq_getElem hjl]
    · intro q hq
      obtain ⟨_, _, rfl⟩ := List.mem_map.1 hq
      rfl
    · intro v' w' h5 h6 _
      exact h v' w' (by simpa [Row] using h5) h6

/-- string(v), v whatever reads as bytes. -/
theorem run_string (src dst e : TypeId) (hs : P.underlying src = some (.slice e)) (he : P.underlying e = some (.int .u8)) (hd : P.underlying dst = some .string) {v : Value} {xs : List Int} (hr : Reads .u8 w v xs) :
    (convert src dst v).run P w = .ok (.string (strOfNums xs)) w := by
  obtain ⟨p, c, rfl, h1, h2, h3, h4⟩ := hr
  cases p with
  | none =>
    obtain rfl := h3 rfl
    have hy : xs = [] := List.eq_nil_of_length_eq_zero (by omega)
    subst hy
    rw [run_convert_bytes_nil w src e hs he _ _ dst hd]
    rfl
  | some ad =>
    rcases Nat.eq_zero_or_pos xs.length with h0 | h0
    · have hy : xs = [] := List.eq_nil_of_length_eq_zero h0
      subst hy
      rw [run_convert_bytes_string w src dst e _ _ _ hs he hd]
      simp [Conv.bytesToString, loadCells, loadCellsFrom]
      rfl
    · obtain ⟨b, off, hp, _, hc⟩ := h4 h0
      cases hp
      exact run_convert_bytes_arg w src e hs he b off _ c xs rfl hc dst hd
end
end Go.Proofs.Yteiiifonejkjbaa.Mem
/-
  A PIECE OF WHAT READS AS NUMBERS: the operations x[i:j], x[i:], x[:j], each in one way (the piece's value is not looked into). No program is looked into here.
-/
namespace Go.Proofs.Yteiiifonejkjbaa.Mem
open Go.RowKit
set_option linter.unusedVariables false

theorem Reads.sliced {k : IntKind} {w : World} {p : Option Addr} {n c : Nat} {xs : List Int} (hr : Reads k w (.slice p n c) xs) (l h : Nat) (h1 : l ≤ h) (h2 : h ≤ xs.length) :
    Reads k w (sliced p l h c 1) ((xs.drop l).take (h - l)) := by
  have hl : ((xs.drop l).take (h - l)).length = h - l := by simp; omega
  unfold Go.sliced
  rw [Nat.mul_one]
  by_cases e : c = l
  · rw [if_pos e]
    obtain ⟨p', c', ev, k1, k2, k3, _⟩ := hr
    cases ev
    have h0 : h - l = 0 := by omega
    rw [h0, List.take_zero, show c - l = 0 by omega]
    exact Reads.sub0
  · rw [if_neg e]
    exact hr.sub l (h - l) (by omega)

section
variable {P : Program} {w : World} {ops : Array Oper} {rest : List Oper} {o : Oper} {a : Act} {Q : Exit → Act → World → Prop}
theorem wpl_sub (hgd : o.guard = none) (t : TypeId) (x lo hi : Operand) (ho : o.op = .slice t x (some lo) (some hi) none) (k : IntKind) (i : TypeInfo)
    (ht : P.underlying t = some (.slice (P.elem t))) (hii : P.info? (P.elem t) = some i) (hsize : i.size = 1)
    (v : Value) (xs : List Int) (l h : Int) (hx : a.eval x = v) (hl : a.eval lo = .int .i64 l) (hh : a.eval hi = .int .i64 h) (hr : Reads k w v xs) (h0 : 0 ≤ l) (h1 : l ≤ h) (h2 : h ≤ xs.length)
    (K : ∀ v', Reads k w v' ((xs.drop l.toNat).take (h - l).toNat) → wpList P ops Q rest (a.put o.dst v') w) : wpList P ops Q (o :: rest) a w := by
  have hr' := hr
  obtain ⟨p, c, rfl, k1, k2, k3, k4⟩ := hr
  have hs : (sizeOf (P.elem t)).run P w = .ok 1 w := by simp [sizeOf, typeInfo, hii, hsize]
  refine wpList_plain hgd fun K' hK => ?_
  unfold Oper.wp execOp
  simp only [ho, hx, hl, hh, Option.map_some, Option.map_none, run_sliceAt_slice w t _ _ _ _ ht, run_slice_lh w t p xs.length c ht .i64 .i64 l h h0 h1 (by omega), hs, Sem.run_bind, Sem.run_pure, Result.andThen_ok]
  have := hr'.sliced l.toNat h.toNat (by omega) (by omega)
  refine hK _ _ (K _ ?_)
  rw [show (h - l).toNat = h.toNat - l.toNat by omega]
  exact this
theorem wpl_sub_l (hgd : o.guard = none) (t : TypeId) (x lo : Operand) (ho : o.op = .slice t x (some lo) none none) (k : IntKind) (i : TypeInfo)
    (ht : P.underlying t = some (.slice (P.elem t))) (hii : P.info? (P.elem t) = some i) (hsize : i.size = 1)
    (v : Value) (xs : List Int) (l : Int) (hx : a.eval x = v) (hl : a.eval lo = .int .i64 l) (hr : Reads k w v xs) (h0 : 0 ≤ l) (h1 : l ≤ xs.length)
    (K : ∀ v', Reads k w v' (xs.drop l.toNat) → wpList P ops Q rest (a.put o.dst v') w) : wpList P ops Q (o :: rest) a w := by
  have hr' := hr
  obtain ⟨p, c, rfl, k1, k2, k3, k4⟩ := hr
  have hs : (sizeOf (P.elem t)).run P w = .ok 1 w := by simp [sizeOf, typeInfo, hii, hsize]
  refine wpList_plain hgd fun K' hK => ?_
  unfold Oper.wp execOp
  simp only [ho, hx, hl, Option.map_some, Option.map_none, run_sliceAt_slice w t _ _ _ _ ht, run_slice_l w t p xs.length c ht .i64 l h0 h1, hs, Sem.run_bind, Sem.run_pure, Result.andThen_ok]
  have := hr'.sliced l.toNat xs.length (by omega) (by omega)
  refine hK _ _ (K _ ?_)
  rwa [List.take_of_length_le (by simp)] at this
theorem wpl_sub_h (hgd : o.guard = none) (t : TypeId) (x hi : Operand) (ho : o.op = .slice t x none (some hi) none) (k : IntKind) (i : TypeInfo)
    (ht : P.underlying t = some (.slice (P.elem t))) (hii : P.info? (P.elem t) = some i) (hsize : i.size = 1)
    (v : Value) (xs : List Int) (h : Int) (hx : a.eval x = v) (hh : a.eval hi = .int .i64 h) (hr : Reads k w v xs) (h0 : 0 ≤ h) (h1 : h ≤ xs.length)
    (K : ∀ v', Reads k w v' (xs.take h.toNat) → wpList P ops Q rest (a.put o.dst v') w) : wpList P ops Q (o :: rest) a w := by
  have hr' := hr
  obtain ⟨p, c, rfl, k1, k2, k3, k4⟩ := hr
  have hs : (sizeOf (P.elem t)).run P w = .ok 1 w := by simp [sizeOf, typeInfo, hii, hsize]
  refine wpList_plain hgd fun K' hK => ?_
  unfold Oper.wp execOp
  simp only [ho, hx, hh, Option.map_some, Option.map_none, run_sliceAt_slice w t _ _ _ _ ht, run_slice_h w t p xs.length c ht .i64 h h0 (by omega), hs, Sem.run_bind, Sem.run_pure, Result.andThen_ok]
  have := hr'.sliced 0 h.toNat (by omega) (by omega)
  refine hK _ _ (K _ ?_)
  simpa using this
end
end Go.Proofs.Yteiiifonejkjbaa.Mem
/-
  A REGION THAT DRAWS ITS ORDER, WHOSE OPERATIONS LEAVE OLD MEMORY ALONE (they may make memory): EACH OPERATION IS SHOWN ONCE, whatever the order. Of each operation it is said what its slot holds (a property that stands while memory only grows); of the operations that it waits for it may use what their slots hold. No program is looked into here.
-/
namespace Go.Proofs.Yteiiifonejkjbaa.Mono
open Go.RowKit
set_option linter.unusedVariables false

/-- A property of a slot's value that stands while memory only grows. -/
structure Prp where
  R : Value → World → Prop
  stays : ∀ v w w', R v w → Below w.heap.size w w' → R v w'

/-- The slot holds this very value. -/
def isV (c : Value) : Prp := ⟨fun v _ => v = c, fun _ _ _ h _ => h⟩
/-- Nothing is said. -/
def anyV : Prp := ⟨fun _ _ => True, fun _ _ _ h _ => h⟩

section
variable (P : Program)

/-- What the slots of the operations hold that an operation waits for. -/
def DepFacts (ds : List (Option Nat)) (Rs : List Prp) (a : Act) (w : World) : List Edge → Prop
  | [] => True
  | e :: es => (Region.binds .any e = true → match ds[e.on]?, Rs[e.on]? with | some (some d), some R => R.R (a.eval (.tmp d)) w | _, _ => True) ∧ DepFacts ds Rs a w es

/-- Does the operation come up, by its guard's slot? -/
def want (ds : List (Option Nat)) (o : Oper) (a : Act) : Bool :=
  match o.guard with
  | none => true
  | some (g, b) => match ds[g]? with
    | some (some d) => (match a.eval (.tmp d) with | .bool c => c == b | _ => false)
    | _ => false

/-- What is to be shown of one operation. -/
def OpGoal (ds : List (Option Nat)) (Rs : List Prp) (a0 : Act) (w0 : World) (o : Oper) (R : Prp) : Prop :=
  ∀ (a : Act) (w : World), Below w0.heap.size w0 w → (∀ t, some t ∉ ds → a.eval (.tmp t) = a0.eval (.tmp t)) → DepFacts ds Rs a w o.after.toList →
    if want ds o a = true then o.wp P a w (fun a' w' => ∃ v, a' = a.put o.dst v ∧ Below w.heap.size w w' ∧ R.R v w') (fun _ _ _ => False) else R.R undef w

def OpGoals (ds : List (Option Nat)) (Rs : List Prp) (a0 : Act) (w0 : World) : List Oper → List Prp → Prop
  | o :: os, R :: rs => OpGoal P ds Rs a0 w0 o R ∧ OpGoals ds Rs a0 w0 os rs
  | [], [] => True
  | _, _ => False

/-- What is behind the region: of all slots it is known what they hold. -/
def Fin (w : World) (K : Act → Prop) : List (Option Nat) → List Prp → Act → Prop
  | d :: ds, R :: Rs, a => ∀ v, R.R v w → Fin w K ds Rs (a.put d v)
  | _, _, a => K a

/-- The region's form: its slots are apart, they are there, each operation waits for earlier ones alone. -/
def formB (ops : List Oper) (ds : List (Option Nat)) (size : Nat) : Bool :=
  (ops.map (·.dst) == ds) && decide ((ds.filterMap id).Nodup) && (ds.filterMap id).all (· < size) &&
  (ops.zipIdx.all fun (o, i) => o.after.toList.all fun e => !Region.binds .any e || decide (e.on < i)) && ops.all fun o => match o.guard with | none => true | some (g, _) => o.after.toList.any fun e => e.on == g
end

section
variable {P : Program}

theorem eval_tmp (a : Act) (t : Nat) : a.eval (.tmp t) = a.tmps.getD t undef := rfl

theorem opGoals_at {ds : List (Option Nat)} {Rs : List Prp} {a0 : Act} {w0 : World} : ∀ {os : List Oper} {rs : List Prp}, OpGoals P ds Rs a0 w0 os rs → os.length = rs.length ∧
    ∀ (j : Nat) (o : Oper) (R : Prp), os[j]? = some o → rs[j]? = some R → OpGoal P ds Rs a0 w0 o R
  | [], [], _ => ⟨rfl, fun j o R h => by simp at h⟩
  | [], _ :: _, h => h.elim
  | _ :: _, [], h => h.elim
  | o :: os, R :: rs, h => by
    obtain ⟨h1, h2⟩ := opGoals_at h.2
    refine ⟨by simp [h1], fun j o' R' ho hR => ?_⟩
    cases j with
    | zero =>
      simp at ho hR
      subst ho; subst hR
      exact h.1
    | succ j => exact h2 j o' R' (by simpa using ho) (by simpa using hR)

/-- All that is kept while the region runs. -/
structure Inv (ds : List (Option Nat)) (Rs : List Prp) (a0 : Act) (w0 : World) (listed : Array Bool) (a : Act) (w : World) : Prop where
  below : Below w0.heap.size w0 w
  size : a.tmps.size = a0.tmps.size
  defers : a.defers = a0.defers
  same : ∀ t, some t ∉ ds → a.tmps[t]? = a0.tmps[t]?
  holds : ∀ (i : Nat) (R : Prp), listed.getD i false = true → Rs[i]? = some R → ∃ v, R.R v w ∧ ∀ d, ds[i]? = some (some d) → a.eval (.tmp d) = v

theorem put_size (a : Act) (d : Option Nat) (v : Value) : (a.put d v).tmps.size = a.tmps.size := by cases d <;> simp [Act.put]
theorem put_defers (a : Act) (d : Option Nat) (v : Value) : (a.put d v).defers = a.defers := by cases d <;> simp [Act.put]
theorem put_ne (a : Act) (d : Option Nat) (v : Value) (t : Nat) (h : d ≠ some t) : (a.put d v).tmps[t]? = a.tmps[t]? := by
  cases d with
  | none => rfl
  | some d =>
    have : d ≠ t := fun e => h (by rw [e])
    simp [Act.put, Array.getElem?_setIfInBounds_ne this]
theorem eval_put_ne (a : Act) (d : Option Nat) (v : Value) (t : Nat) (h : d ≠ some t) : (a.put d v).eval (.tmp t) = a.eval (.tmp t) := by
  have := put_ne a d v t h
  simp [Act.eval, Array.getD_eq_getD_getElem?, this]
theorem eval_put_same (a : Act) (d : Nat) (v : Value) (h : d < a.tmps.size) : (a.put (some d) v).eval (.tmp d) = v := by
  simp [Act.eval, Act.put, Array.getD_eq_getD_getElem?, h]

theorem wp_weaken {o : Oper} {a : Act} {w : World} {K : Act → World → Prop} {Q : Exit → Act → World → Prop} (h : o.wp P a w K (fun _ _ _ => False)) : o.wp P a w K Q := by
  unfold Oper.wp at *
  generalize (execOp a.eval o).run P w = r at *
  cases r with
  | ok n w' =>
    cases n <;> simp only [Oper.upon] at h ⊢ <;>
      first
        | exact h
        | exact Calls.mono h (fun e w'' he => by
            cases e
            · exact he
            · exact he.elim
            · obtain ⟨_, _, he⟩ := he; exact he.elim)
  | halt x w' => cases x <;> simp only [Oper.upon] at h ⊢

theorem depFacts_of {ds : List (Option Nat)} {Rs : List Prp} {a0 : Act} {w0 : World} {listed : Array Bool} {a : Act} {w : World} (h : Inv ds Rs a0 w0 listed a w) :
    ∀ (es : List Edge), (∀ e ∈ es, Region.binds .any e = true → listed.getD e.on false = true) → DepFacts ds Rs a w es
  | [], _ => trivial
  | e :: es, hl => by
    refine ⟨fun hbe => ?_, depFacts_of h es (fun x hx => hl x (List.mem_cons_of_mem _ hx))⟩
    split
    · rename_i d R h1 h2
      obtain ⟨v, h3, h4⟩ := h.holds _ _ (hl e (List.mem_cons_self ..) hbe) h2
      rw [h4 d h1]
      exact h3
    · trivial

theorem binds_any_of {e : Edge} (_h : True) : Region.binds .any e = true ∨ Region.binds .any e = false := by cases Region.binds .any e <;> simp

/-- THE STEP: operation j comes up. -/
theorem step_op {ops : List Oper} {ds : List (Option Nat)} {Rs : List Prp} {a0 : Act} {w0 : World} {Q : Exit → Act → World → Prop} {listed : Array Bool} {a : Act} {w : World} {K : Act → World → Prop}
    (hf : formB ops ds a0.tmps.size = true) (hg : OpGoals P ds Rs a0 w0 ops Rs) (hsz : listed.size = ops.length)
    (h : Inv ds Rs a0 w0 listed a w) {j : Nat} (hj : j ∈ Region.ready .any ops.toArray listed)
    (hK : ∀ a' w', Inv ds Rs a0 w0 (listed.setIfInBounds j true) a' w' → K a' w') : wpOp P ops.toArray Q j K a w := by
  obtain ⟨hjun, o, ho, hall⟩ := mem_ready.1 hj
  have ho' : ops[j]? = some o := by simpa using ho
  simp only [formB, Bool.and_eq_true, beq_iff_eq, decide_eq_true_eq, List.all_eq_true] at hf
  obtain ⟨⟨⟨⟨f1, f2⟩, f3⟩, f4⟩, f5⟩ := hf
  obtain ⟨hlen, hgo⟩ := opGoals_at hg
  have hjlt : j < ops.length := (List.getElem?_eq_some_iff.1 ho').1
  obtain ⟨R, hR⟩ : ∃ R, Rs[j]? = some R := ⟨Rs[j]'(by omega), by simp⟩
  have hdj : ds[j]? = some o.dst := by rw [← f1]; simp [ho']
  have hom : o ∈ ops := List.mem_of_getElem? ho'
  have hdeps : ∀ e ∈ o.after.toList, Region.binds .any e = true → listed.getD e.on false = true := fun e he hbe => hall e (by simpa using he) hbe
  have goal := hgo j o R ho' hR a w h.below (fun t ht => by simp [Act.eval, Array.getD_eq_getD_getElem?, h.same t ht]) (depFacts_of h _ hdeps)
  have hwant : Region.wanted o (yielded ops.toArray a.tmps) = want ds o a := by
    unfold Region.wanted want
    cases hgd : o.guard with
    | none => rfl
    | some gb =>
      obtain ⟨g, b⟩ := gb
      simp only
      have h5 := f5 o hom
      rw [hgd] at h5
      simp only [List.any_eq_true, beq_iff_eq] at h5
      obtain ⟨e, he, heg⟩ := h5
      unfold yielded
      have hdg : ds[g]? = (ops[g]?).map (·.dst) := by rw [← f1]; simp
      cases hog : ops[g]? with
      | none => rw [hog] at hdg; simp [hog, hdg]
      | some og =>
        rw [hog] at hdg
        simp only [Option.map_some] at hdg
        cases hd : og.dst with
        | none => rw [hd] at hdg; simp [hog, hdg, hd]
        | some d =>
          rw [hd] at hdg
          simp only [hog, hdg, hd, List.getElem?_toArray, Option.bind_some, Act.eval, Array.getD_eq_getD_getElem?]
          cases hv : a.tmps[d]? with
          | none => simp [undef]
          | some v => cases v <;> simp
  have nodup : ∀ (i d : Nat), i ≠ j → ds[i]? = some (some d) → o.dst ≠ some d := by
    intro i d hij hi e
    rw [e] at hdj
    have key : ∀ (l : List (Option Nat)) (i j d : Nat), (l.filterMap id).Nodup → l[i]? = some (some d) → l[j]? = some (some d) → i = j := by
      intro l
      induction l with
      | nil => intro i j d _ h; simp at h
      | cons x l ih =>
        intro i j d hn hi hj
        cases i with
        | zero =>
          cases j with
          | zero => rfl
          | succ j =>
            simp at hi hj
            subst hi
            simp only [List.filterMap_cons, id] at hn
            rw [List.nodup_cons] at hn
            exact absurd (show d ∈ l.filterMap id from List.mem_filterMap.2 ⟨some d, List.mem_of_getElem? hj, rfl⟩) hn.1
        | succ i =>
          cases j with
          | zero =>
            simp at hi hj
            subst hj
            simp only [List.filterMap_cons, id] at hn
            rw [List.nodup_cons] at hn
            exact absurd (show d ∈ l.filterMap id from List.mem_filterMap.2 ⟨some d, List.mem_of_getElem? hi, rfl⟩) hn.1
          | succ j =>
            have hn' : (l.filterMap id).Nodup := by
              cases x with
              | none => simpa using hn
              | some x => simp only [List.filterMap_cons, id] at hn; exact (List.nodup_cons.1 hn).2
            rw [ih i j d hn' (by simpa using hi) (by simpa using hj)]
    exact hij (key ds i j d f2 hi hdj)
  have next : ∀ v w', Below w.heap.size w w' → R.R v w' → Inv ds Rs a0 w0 (listed.setIfInBounds j true) (a.put o.dst v) w' := by
    intro v w' hbw hRv
    refine ⟨Frame.ext h.below hbw, (put_size ..).trans h.size, (put_defers ..).trans h.defers, fun t ht => ?_, fun i R' hi hR' => ?_⟩
    · rw [put_ne _ _ _ _ (fun e => ht (by rw [← e]; exact List.mem_of_getElem? hdj))]
      exact h.same t ht
    · by_cases hij : i = j
      · subst hij
        rw [hR] at hR'
        cases hR'
        refine ⟨v, hRv, fun d hd => ?_⟩
        rw [hdj] at hd
        simp at hd
        rw [hd, eval_put_same _ _ _ (by
          rw [h.size]
          have := f3 d (List.mem_filterMap.2 ⟨some d, by rw [← hd]; exact List.mem_of_getElem? hdj, rfl⟩)
          simpa using this)]
      · have hi' : listed.getD i false = true := by
          simp only [Array.getD_eq_getD_getElem?] at hi ⊢
          rwa [Array.getElem?_setIfInBounds_ne (Ne.symm hij)] at hi
        obtain ⟨v', h1, h2⟩ := h.holds i R' hi' hR'
        exact ⟨v', R'.stays _ _ _ h1 hbw, fun d hd => by rw [eval_put_ne _ _ _ _ (nodup i d hij hd)]; exact h2 d hd⟩
  unfold wpOp
  simp only [ho]
  rw [hwant]
  split
  · rename_i hw
    rw [if_pos hw] at goal
    exact .inl (Oper.wp_mono (fun a' w' ⟨v, e, hbw, hRv⟩ => by rw [e]; exact hK _ _ (next v w' hbw hRv)) (wp_weaken goal))
  · rename_i hw
    rw [if_neg hw] at goal
    exact hK _ _ (next undef w (Below.refl _ _) goal)

theorem count_zero {listed : Array Bool} (h : listed.toList.count false = 0) (i : Nat) (hi : i < listed.size) : listed.getD i false = true := by
  have hn : false ∉ listed.toList := List.count_eq_zero.1 h
  have : listed[i] ∈ listed.toList := by simp
  cases hb : listed[i] with
  | true => simp [Array.getD_eq_getD_getElem?, hi, hb]
  | false => rw [hb] at this; exact absurd this hn

theorem count_set {listed : Array Bool} {j : Nat} (hj : listed.getD j true = false) : (listed.setIfInBounds j true).toList.count false + 1 = listed.toList.count false := by
  have hlt : j < listed.size := by
    rcases Nat.lt_or_ge j listed.size with h | h
    · exact h
    · simp [Array.getD_eq_getD_getElem?, Array.getElem?_eq_none h] at hj
  have hv : listed[j] = false := by simpa [Array.getD_eq_getD_getElem?, hlt] using hj
  have hm : false ∈ listed.toList := by rw [← hv]; simp
  have hp : 0 < listed.toList.count false := List.count_pos_iff.2 hm
  rw [Array.toList_setIfInBounds, List.count_set (by simpa using hlt)]
  have hv' : listed.toList[j]'(by simpa using hlt) = false := by simpa using hv
  rw [hv']
  rw [if_pos (by rfl), if_neg (by simp)]
  omega

theorem wpAny_mono {ops : List Oper} {ds : List (Option Nat)} {Rs : List Prp} {a0 : Act} {w0 : World} {Q : Exit → Act → World → Prop}
    (hf : formB ops ds a0.tmps.size = true) (hg : OpGoals P ds Rs a0 w0 ops Rs)
    (hQ : ∀ listed a w, listed.size = ops.length → (∀ i, i < ops.length → listed.getD i false = true) → Inv ds Rs a0 w0 listed a w → Q .normal a w) :
    ∀ (fuel : Nat) (listed : Array Bool) (a : Act) (w : World), listed.size = ops.length → listed.toList.count false ≤ fuel → Inv ds Rs a0 w0 listed a w → wpAny P .any ops.toArray Q fuel listed a w
  | 0, listed, a, w, hsz, hc, h => by
    have hall : ∀ i, i < ops.length → listed.getD i false = true := fun i hi => count_zero (by omega) i (by omega)
    refine ⟨?_, hQ listed a w hsz hall h⟩
    cases hr : Region.ready .any ops.toArray listed with
    | nil => rfl
    | cons j l =>
      have hj : j ∈ Region.ready .any ops.toArray listed := by rw [hr]; simp
      obtain ⟨h1, o, ho, _⟩ := mem_ready.1 hj
      have hlt : j < ops.length := by simpa using (Array.getElem?_eq_some_iff.1 ho).1
      have h2 := hall j hlt
      simp [Array.getD_eq_getD_getElem?, show j < listed.size by omega] at h1 h2
      rw [h1] at h2
      cases h2
  | fuel + 1, listed, a, w, hsz, hc, h => by
    refine ⟨fun hr => hQ listed a w hsz (fun i => ?_) h, fun j hj => ?_⟩
    · induction i using Nat.strongRecOn with
      | _ i ih =>
        intro hi
        have hlt : i < listed.size := by omega
        cases hb' : listed[i] with
        | true => simp [Array.getD_eq_getD_getElem?, hlt, hb']
        | false =>
          exfalso
          have : i ∈ Region.ready .any ops.toArray listed := by
            refine mem_ready.2 ⟨by simp [Array.getD_eq_getD_getElem?, hlt, hb'], ops[i], by simp, fun e he hbe => ?_⟩
            simp only [formB, Bool.and_eq_true, beq_iff_eq, decide_eq_true_eq, List.all_eq_true] at hf
            obtain ⟨⟨_, f4⟩, _⟩ := hf
            have h4 := f4 (ops[i], i) (by rw [List.mem_iff_getElem?]; exact ⟨i, by simp⟩)
            have h5 : e.on < i := by simpa [hbe] using h4 e (by simpa using he)
            exact ih e.on h5 (by omega)
          rw [hr] at this
          cases this
    · have h1 := (mem_ready.1 hj).1
      exact step_op hf hg hsz h hj (fun a' w' h' => wpAny_mono hf hg hQ fuel _ a' w' (by simpa using hsz) (by have := count_set h1; omega) h')

theorem fin_at {w : World} {K : Act → Prop} : ∀ {ds : List (Option Nat)} {Rs : List Prp} {a : Act} (u : Nat → Value), ds.length = Rs.length → Fin w K ds Rs a →
    (∀ (i : Nat) (R : Prp), Rs[i]? = some R → R.R (u i) w) → K ((ds.zipIdx.foldl (fun a x => a.put x.1 (u x.2)) a))
  | [], [], a, u, _, h, _ => h
  | [], _ :: _, _, _, hl, _, _ => by simp at hl
  | _ :: _, [], _, _, hl, _, _ => by simp at hl
  | d :: ds, R :: Rs, a, u, hl, h, hu => by
    have h1 := h (u 0) (hu 0 R rfl)
    have h2 := fin_at (ds := ds) (Rs := Rs) (a := a.put d (u 0)) (fun i => u (i + 1)) (by simpa using hl) h1 (fun i R' hR => hu (i + 1) R' (by simpa using hR))
    have e : ∀ (l : List (Option Nat)) (k : Nat) (a : Act), (l.zipIdx k).foldl (fun a x => a.put x.1 (u (x.2 + 1))) a = (l.zipIdx (k + 1)).foldl (fun a x => a.put x.1 (u x.2)) a := by
      intro l
      induction l with
      | nil => intro k a; rfl
      | cons x l ih => intro k a; simp only [List.zipIdx_cons, List.foldl_cons]; exact ih (k + 1) _
    simp only [List.zipIdx_cons, List.foldl_cons]
    rw [← e]
    exact h2

theorem foldl_put_ne (u : Nat → Value) (t : Nat) : ∀ (l : List (Option Nat)) (k : Nat) (a : Act), some t ∉ l → ((l.zipIdx k).foldl (fun a x => a.put x.1 (u x.2)) a).tmps[t]? = a.tmps[t]?
  | [], k, a, _ => rfl
  | d :: l, k, a, h => by
    simp only [List.zipIdx_cons, List.foldl_cons]
    rw [foldl_put_ne u t l (k + 1) _ (fun hm => h (List.mem_cons_of_mem _ hm))]
    exact put_ne _ _ _ _ (fun e => h (by rw [← e]; exact List.mem_cons_self ..))

theorem foldl_put_size (u : Nat → Value) : ∀ (l : List (Option Nat)) (k : Nat) (a : Act), ((l.zipIdx k).foldl (fun a x => a.put x.1 (u x.2)) a).tmps.size = a.tmps.size ∧ ((l.zipIdx k).foldl (fun a x => a.put x.1 (u x.2)) a).defers = a.defers
  | [], k, a => ⟨rfl, rfl⟩
  | d :: l, k, a => by
    simp only [List.zipIdx_cons, List.foldl_cons]
    obtain ⟨h1, h2⟩ := foldl_put_size u l (k + 1) (a.put d (u k))
    exact ⟨h1.trans (put_size ..), h2.trans (put_defers ..)⟩

theorem foldl_put_at (u : Nat → Value) (t : Nat) : ∀ (l : List (Option Nat)) (k : Nat) (a : Act), (l.filterMap id).Nodup → t < a.tmps.size → ∀ i, l[i]? = some (some t) →
    ((l.zipIdx k).foldl (fun a x => a.put x.1 (u x.2)) a).tmps[t]? = some (u (k + i))
  | [], k, a, _, _, i, h => by simp at h
  | d :: l, k, a, hn, ht, i, h => by
    simp only [List.zipIdx_cons, List.foldl_cons]
    cases i with
    | zero =>
      simp at h
      subst h
      simp only [List.filterMap_cons, id] at hn
      rw [List.nodup_cons] at hn
      rw [foldl_put_ne u t l (k + 1) _ (fun hm => hn.1 (show t ∈ l.filterMap id from List.mem_filterMap.2 ⟨some t, hm, rfl⟩))]
      simp [Act.put, ht]
    | succ i =>
      have hn' : (l.filterMap id).Nodup := by
        cases d with
        | none => simpa using hn
        | some x => simp only [List.filterMap_cons, id] at hn; exact (List.nodup_cons.1 hn).2
      have := foldl_put_at u t l (k + 1) (a.put d (u k)) hn' (by rw [put_size]; exact ht) i (by simpa using h)
      rw [this, show k + 1 + i = k + (i + 1) from by omega]

/-- THE LAW: a drawn region, each operation shown once. -/
theorem wp_region_mono {id : Nat} {ops : List Oper} {Q : Exit → Act → World → Prop} {a0 : Act} {w0 : World} (ds : List (Option Nat)) (Rs : List Prp) (hm : P.follows .mixedOrders = true)
    (hf : formB ops ds a0.tmps.size = true) (hg : OpGoals P ds Rs a0 w0 ops Rs)
    (hfin : ∀ w, Below w0.heap.size w0 w → Fin w (fun a => Q .normal a w) ds Rs a0) : (Code.region id ops.toArray true).wp P Q a0 w0 := by
  have hf' := hf
  simp only [formB, Bool.and_eq_true, beq_iff_eq, decide_eq_true_eq, List.all_eq_true] at hf'
  obtain ⟨⟨⟨⟨f1, f2⟩, f3⟩, _⟩, _⟩ := hf'
  obtain ⟨hlen, _⟩ := opGoals_at hg
  have hdl : ds.length = ops.length := by rw [← f1]; simp
  refine wp_region_any hm (wpAny_mono hf hg ?_ _ _ _ _ (by simp) ?_ ?_)
  · intro listed a w hsz hall h
    have ex : ∀ i : Nat, ∃ v, (∀ R : Prp, Rs[i]? = some R → R.R v w) ∧ ∀ d, ds[i]? = some (some d) → a.eval (.tmp d) = v := by
      intro i
      cases hR : Rs[i]? with
      | none =>
        refine ⟨undef, (fun R h => by cases h), fun d hd => ?_⟩
        have h1 := (List.getElem?_eq_some_iff.1 hd).1
        have h2 : Rs.length ≤ i := by simpa using hR
        omega
      | some R =>
        have hi : i < ops.length := by have := (List.getElem?_eq_some_iff.1 hR).1; omega
        obtain ⟨v, h1, h2⟩ := h.holds i R (hall i hi) hR
        exact ⟨v, (fun R' hR' => by cases hR'; exact h1), h2⟩
    obtain ⟨u, hu⟩ := Classical.axiomOfChoice ex
    have hK := fin_at (w := w) u (by omega) (hfin w h.below) (fun i R hR => (hu i).1 R hR)
    have e : ds.zipIdx.foldl (fun a x => a.put x.1 (u x.2)) a0 = a := by
      obtain ⟨s1, s2⟩ := foldl_put_size u ds 0 a0
      have hts : (ds.zipIdx.foldl (fun a x => a.put x.1 (u x.2)) a0).tmps = a.tmps := by
        apply Array.ext (by rw [s1, h.size])
        intro t ht1 ht2
        have key : (ds.zipIdx.foldl (fun a x => a.put x.1 (u x.2)) a0).tmps[t]? = a.tmps[t]? := by
          by_cases hm : some t ∈ ds
          · obtain ⟨i, hi⟩ := List.mem_iff_getElem?.1 hm
            rw [foldl_put_at u t ds 0 a0 f2 (by rw [← h.size]; exact ht2) i hi, Nat.zero_add]
            have h3 := (hu i).2 t hi
            simp only [Act.eval, Array.getD_eq_getD_getElem?] at h3
            rw [Array.getElem?_eq_getElem ht2] at h3 ⊢
            simp at h3
            rw [h3]
          · rw [foldl_put_ne u t ds 0 a0 hm, h.same t hm]
        rw [Array.getElem?_eq_getElem ht1, Array.getElem?_eq_getElem ht2] at key
        exact Option.some.inj key
      generalize ds.zipIdx.foldl (fun a x => a.put x.1 (u x.2)) a0 = b at *
      obtain ⟨bt, bd⟩ := b
      obtain ⟨at', ad⟩ := a
      simp only at hts s2
      rw [hts, s2, ← h.defers]
    rw [e] at hK
    exact hK
  · simp
  · exact ⟨Frame.ext_drew w0, rfl, rfl, fun _ _ => rfl, fun i R hi => by simp [Array.getD_eq_getD_getElem?, Array.getElem?_replicate] at hi; split at hi <;> cases hi⟩
end
end Go.Proofs.Yteiiifonejkjbaa.Mono
/-
  A REGION THAT DRAWS ITS ORDER, WITH A HEAD WHOSE OPERATIONS LEAVE OLD MEMORY ALONE (they may make memory), AND A TAIL THAT IS FORCED behind the head and runs in its own order: the head's operations are shown once each, as in Mono; then the tail is walked. No program is looked into here.
-/
namespace Go.Proofs.Yteiiifonejkjbaa.Mono
open Go.RowKit
set_option linter.unusedVariables false
set_option linter.unusedSimpArgs false
/-- The region's form: the head's slots are apart, they are there, each operation waits for earlier ones alone; the tail waits for the head, and comes in order. -/
def formT (ops : List Oper) (n : Nat) (ds : List (Option Nat)) (size : Nat) : Bool :=
  ((ops.take n).map (·.dst) == ds) && decide ((ds.filterMap id).Nodup) && (ds.filterMap id).all (· < size) &&
  ((ops.take n).zipIdx.all fun (o, i) => o.after.toList.all fun e => !Region.binds .any e || decide (e.on < i)) && ((ops.take n).all fun o => match o.guard with | none => true | some (g, _) => decide (g < n)) &&
  decide (n < ops.length) && Region.sinkB .any ops.toArray n && Region.chainB .any ops.toArray n && Region.seqB .any ops.toArray (ops.length - n) n (Array.replicate n true ++ Array.replicate (ops.length - n) false)
section
variable {P : Program}
/-- THE STEP: operation j of the head comes up. -/
theorem step_opT {ops : List Oper} {n : Nat} {ds : List (Option Nat)} {Rs : List Prp} {a0 : Act} {w0 : World} {Q : Exit → Act → World → Prop} {listed : Array Bool} {a : Act} {w : World} {K : Act → World → Prop} {j : Nat}
    (hf : formT ops n ds a0.tmps.size = true) (hg : OpGoals P ds Rs a0 w0 (ops.take n) Rs) (hjn : j < n)
    (h : Inv ds Rs a0 w0 listed a w) (hj : j ∈ Region.ready .any ops.toArray listed)
    (hK : ∀ a' w', Inv ds Rs a0 w0 (listed.setIfInBounds j true) a' w' → K a' w') : wpOp P ops.toArray Q j K a w := by
  obtain ⟨hjun, o, ho, hall⟩ := mem_ready.1 hj
  have ho0 : ops[j]? = some o := by simpa using ho
  have ho' : (ops.take n)[j]? = some o := by rw [List.getElem?_take]; simp [hjn, ho0]
  simp only [formT, Bool.and_eq_true, beq_iff_eq, decide_eq_true_eq, List.all_eq_true] at hf
  obtain ⟨⟨⟨⟨⟨⟨⟨⟨f1, f2⟩, f3⟩, f4⟩, f5⟩, f6⟩, f7⟩, f8⟩, f9⟩ := hf
  obtain ⟨hlen, hgo⟩ := opGoals_at hg
  have hjlt : j < (ops.take n).length := (List.getElem?_eq_some_iff.1 ho').1
  obtain ⟨R, hR⟩ : ∃ R, Rs[j]? = some R := ⟨Rs[j]'(by omega), by simp⟩
  have hdj : ds[j]? = some o.dst := by rw [← f1, List.getElem?_map, ho']; rfl
  have hom : o ∈ ops.take n := List.mem_of_getElem? ho'
  have hdeps : ∀ e ∈ o.after.toList, Region.binds .any e = true → listed.getD e.on false = true := fun e he hbe => hall e (by simpa using he) hbe
  have goal := hgo j o R ho' hR a w h.below (fun t ht => by simp [Act.eval, Array.getD_eq_getD_getElem?, h.same t ht]) (depFacts_of h _ hdeps)
  have hwant : Region.wanted o (yielded ops.toArray a.tmps) = want ds o a := by
    unfold Region.wanted want
    cases hgd : o.guard with
    | none => rfl
    | some gb =>
      obtain ⟨g, b⟩ := gb
      simp only
      have h5 := f5 o hom
      rw [hgd] at h5
      have hgn : g < n := by simpa using h5
      unfold yielded
      have hdg : ds[g]? = (ops[g]?).map (·.dst) := by rw [← f1]; simp [List.getElem?_take, hgn]
      cases hog : ops[g]? with
      | none => rw [hog] at hdg; simp [hog, hdg]
      | some og =>
        rw [hog] at hdg
        simp only [Option.map_some] at hdg
        cases hd : og.dst with
        | none => rw [hd] at hdg; simp [hog, hdg, hd]
        | some d =>
          rw [hd] at hdg
          simp only [hog, hdg, hd, List.getElem?_toArray, Option.bind_some, Act.eval, Array.getD_eq_getD_getElem?]
          cases hv : a.tmps[d]? with
          | none => simp [undef]
          | some v => cases v <;> simp
  have nodup : ∀ (i d : Nat), i ≠ j → ds[i]? = some (some d) → o.dst ≠ some d := by
    intro i d hij hi e
    rw [e] at hdj
    have key : ∀ (l : List (Option Nat)) (i j d : Nat), (l.filterMap id).Nodup → l[i]? = some (some d) → l[j]? = some (some d) → i = j := by
      intro l
      induction l with
      | nil => intro i j d _ h; simp at h
      | cons x l ih =>
        intro i j d hn hi hj
        cases i with
        | zero =>
          cases j with
          | zero => rfl
          | succ j =>
            simp at hi hj
            subst hi
            simp only [List.filterMap_cons, id] at hn
            rw [List.nodup_cons] at hn
            exact absurd (show d ∈ l.filterMap id from List.mem_filterMap.2 ⟨some d, List.mem_of_getElem? hj, rfl⟩) hn.1
        | succ i =>
          cases j with
          | zero =>
            simp at hi hj
            subst hj
            simp only [List.filterMap_cons, id] at hn
            rw [List.nodup_cons] at hn
            exact absurd (show d ∈ l.filterMap id from List.mem_filterMap.2 ⟨some d, List.mem_of_getElem? hi, rfl⟩) hn.1
          | succ j =>
            have hn' : (l.filterMap id).Nodup := by
              cases x with
              | none => simpa using hn
              | some x => simp only [List.filterMap_cons, id] at hn; exact (List.nodup_cons.1 hn).2
            rw [ih i j d hn' (by simpa using hi) (by simpa using hj)]
    exact hij (key ds i j d f2 hi hdj)
  have next : ∀ v w', Below w.heap.size w w' → R.R v w' → Inv ds Rs a0 w0 (listed.setIfInBounds j true) (a.put o.dst v) w' := by
    intro v w' hbw hRv
    refine ⟨Frame.ext h.below hbw, (put_size ..).trans h.size, (put_defers ..).trans h.defers, fun t ht => ?_, fun i R' hi hR' => ?_⟩
    · rw [put_ne _ _ _ _ (fun e => ht (by rw [← e]; exact List.mem_of_getElem? hdj))]
      exact h.same t ht
    · by_cases hij : i = j
      · subst hij
        rw [hR] at hR'
        cases hR'
        refine ⟨v, hRv, fun d hd => ?_⟩
        rw [hdj] at hd
        simp at hd
        rw [hd, eval_put_same _ _ _ (by
          rw [h.size]
          have := f3 d (List.mem_filterMap.2 ⟨some d, by rw [← hd]; exact List.mem_of_getElem? hdj, rfl⟩)
          simpa using this)]
      · have hi' : listed.getD i false = true := by
          simp only [Array.getD_eq_getD_getElem?] at hi ⊢
          rwa [Array.getElem?_setIfInBounds_ne (Ne.symm hij)] at hi
        obtain ⟨v', h1, h2⟩ := h.holds i R' hi' hR'
        exact ⟨v', R'.stays _ _ _ h1 hbw, fun d hd => by rw [eval_put_ne _ _ _ _ (nodup i d hij hd)]; exact h2 d hd⟩
  unfold wpOp
  simp only [ho]
  rw [hwant]
  split
  · rename_i hw
    rw [if_pos hw] at goal
    exact .inl (Oper.wp_mono (fun a' w' ⟨v, e, hbw, hRv⟩ => by rw [e]; exact hK _ _ (next v w' hbw hRv)) (wp_weaken goal))
  · rename_i hw
    rw [if_neg hw] at goal
    exact hK _ _ (next undef w (Below.refl _ _) goal)


theorem wpAny_monoT {ops : List Oper} {n : Nat} {ds : List (Option Nat)} {Rs : List Prp} {a0 : Act} {w0 : World} {Q : Exit → Act → World → Prop}
    (hf : formT ops n ds a0.tmps.size = true) (hg : OpGoals P ds Rs a0 w0 (ops.take n) Rs)
    (hQ : ∀ listed a w, (∀ i, i < n → listed.getD i false = true) → Inv ds Rs a0 w0 listed a w → wpList P ops.toArray Q (ops.drop n) a w) :
    ∀ (d : Nat) (listed : Array Bool) (a : Act) (w : World), HeadInv .any ops.toArray n listed → listed.toList.count false = d + (ops.length - n) → Inv ds Rs a0 w0 listed a w → wpAny P .any ops.toArray Q (d + (ops.length - n)) listed a w := by
  have hf' := hf
  simp only [formT, Bool.and_eq_true, beq_iff_eq, decide_eq_true_eq, List.all_eq_true] at hf'
  obtain ⟨⟨⟨⟨⟨⟨⟨⟨f1, f2⟩, f3⟩, f4⟩, f5⟩, f6⟩, f7⟩, f8⟩, f9⟩ := hf'
  have hn : n < ops.toArray.size := by simpa using f6
  -- the count of what is not listed, by the head
  have split : ∀ listed : Array Bool, HeadInv .any ops.toArray n listed → listed = (listed.toList.take n).toArray ++ Array.replicate (ops.length - n) false := by
    intro listed inv
    have hs : listed.size = ops.length := by simpa using inv.size
    apply Array.ext_getElem?
    intro i
    by_cases hi : i < n
    · rw [Array.getElem?_append_left (by simp; omega)]
      simp [List.getElem?_take, hi]
    · rw [Array.getElem?_append_right (by simp; omega)]
      have hm : min n listed.size = n := by omega
      by_cases hi2 : i < ops.length
      · have h1 := inv.tail i (by omega) (by simpa using hi2)
        have h2 : listed[i]? = some false := by
          rw [Array.getD_eq_getD_getElem?] at h1
          rw [Array.getElem?_eq_getElem (by omega)] at h1 ⊢
          simpa using h1
        rw [h2]
        simp [Array.getElem?_replicate, hm]
        omega
      · rw [Array.getElem?_eq_none (by omega)]
        simp [Array.getElem?_replicate, hm]
        omega
  have cnt : ∀ listed : Array Bool, HeadInv .any ops.toArray n listed → listed.toList.count false = (listed.toList.take n).count false + (ops.length - n) := by
    intro listed inv
    conv => lhs; rw [split listed inv]
    simp [List.count_replicate]
  intro d
  induction d with
  | zero =>
    intro listed a w inv hc h
    have hz : (listed.toList.take n).count false = 0 := by have := cnt listed inv; omega
    have hs : listed.size = ops.length := by simpa using inv.size
    have hall : ∀ i, i < n → listed.getD i false = true := by
      intro i hi
      have hnm : false ∉ listed.toList.take n := List.count_eq_zero.1 hz
      have hil : i < listed.size := by omega
      rw [Array.getD_eq_getD_getElem?, Array.getElem?_eq_getElem hil]
      cases hb : listed[i] with
      | true => rfl
      | false => exact absurd (List.mem_iff_getElem?.2 ⟨i, by simp [List.getElem?_take, hi, hil, hb]⟩) hnm
    have hl : listed = Array.replicate n true ++ Array.replicate (ops.length - n) false := by
      rw [split listed inv]
      congr 1
      apply Array.ext_getElem?
      intro i
      by_cases hi : i < n
      · have h1 := hall i hi
        have hil : i < listed.size := by omega
        rw [Array.getD_eq_getD_getElem?, Array.getElem?_eq_getElem hil] at h1
        simp only [Option.getD_some] at h1
        simp [List.getElem?_take, hi, hil, h1, Array.getElem?_replicate]
      · simp [List.getElem?_take, hi, Array.getElem?_replicate]
    have := wpAny_of_seq (P := P) (md := .any) (ops := ops.toArray) (Q' := Q) (ops.drop n) n listed a w (fun j => by simp [List.getElem?_drop]) (by rw [List.length_drop, hl]; exact f9) (hQ listed a w hall h)
    rw [List.length_drop] at this
    rwa [Nat.zero_add]
  | succ d ih =>
    intro listed a w inv hc h
    have hs : listed.size = ops.length := by simpa using inv.size
    -- one of the head is not listed
    have hex : ∃ i, i < n ∧ listed.getD i true = false := by
      have hp : 0 < (listed.toList.take n).count false := by have := cnt listed inv; omega
      obtain ⟨i, hi⟩ := List.mem_iff_getElem?.1 (List.count_pos_iff.1 hp)
      have hin : i < n := by
        have := (List.getElem?_eq_some_iff.1 hi).1
        simp at this
        omega
      refine ⟨i, hin, ?_⟩
      rw [List.getElem?_take] at hi
      simp only [hin, if_true] at hi
      rw [Array.getD_eq_getD_getElem?]
      have : listed[i]? = some false := by simpa using hi
      rw [this]; rfl
    obtain ⟨i, hin, hiu⟩ := hex
    have hlt : ∀ j ∈ Region.ready .any ops.toArray listed, j < n := by
      intro j hj
      rcases Nat.lt_or_ge j n with h1 | h1
      · exact h1
      · exact absurd hj (tail_waits f7 f8 hn inv (n - i) i rfl hin hiu j h1)
    have hready : Region.ready .any ops.toArray listed ≠ [] := by
      intro hr
      have key : ∀ i, i < n → listed.getD i false = true := by
        intro i
        induction i using Nat.strongRecOn with
        | _ i ihh =>
          intro hi
          have hil : i < listed.size := by omega
          cases hb' : listed[i] with
          | true => simp [Array.getD_eq_getD_getElem?, hil, hb']
          | false =>
            exfalso
            have hio : i < ops.length := by omega
            have : i ∈ Region.ready .any ops.toArray listed := by
              refine mem_ready.2 ⟨by simp [Array.getD_eq_getD_getElem?, hil, hb'], ops[i], by simp, fun e he hbe => ?_⟩
              have h4 := f4 (ops[i], i) (by rw [List.mem_iff_getElem?]; exact ⟨i, by simp [List.getElem?_take, hi]⟩)
              have h5 : e.on < i := by simpa [hbe] using h4 e (by simpa using he)
              exact ihh e.on h5 (by omega)
            rw [hr] at this
            cases this
      have := key i hin
      have hil : i < listed.size := by omega
      simp [Array.getD_eq_getD_getElem?, hil] at this hiu
      rw [hiu] at this
      cases this
    rw [show d + 1 + (ops.length - n) = (d + (ops.length - n)) + 1 by omega]
    refine ⟨fun hr => absurd hr hready, fun j hj => ?_⟩
    have hjn := hlt j hj
    have h1 := (mem_ready.1 hj).1
    exact step_opT hf hg hjn h hj (fun a' w' h' => ih _ a' w' (inv.set hj hjn) (by have := count_set h1; omega) h')

/-- THE LAW: a drawn region, each operation of the head shown once; then the tail is walked. -/
theorem wp_region_monoT {id : Nat} {ops : List Oper} {Q : Exit → Act → World → Prop} {a0 : Act} {w0 : World} (n : Nat) (ds : List (Option Nat)) (Rs : List Prp) (hm : P.follows .mixedOrders = true)
    (hf : formT ops n ds a0.tmps.size = true) (hg : OpGoals P ds Rs a0 w0 (ops.take n) Rs)
    (hfin : ∀ w, Below w0.heap.size w0 w → Fin w (fun a => wpList P ops.toArray Q (ops.drop n) a w) ds Rs a0) : (Code.region id ops.toArray true).wp P Q a0 w0 := by
  have hf' := hf
  simp only [formT, Bool.and_eq_true, beq_iff_eq, decide_eq_true_eq, List.all_eq_true] at hf'
  obtain ⟨⟨⟨⟨⟨⟨⟨⟨f1, f2⟩, f3⟩, f4⟩, f5⟩, f6⟩, f7⟩, f8⟩, f9⟩ := hf'
  obtain ⟨hlen, _⟩ := opGoals_at hg
  have htl : (ops.take n).length = n := by simp; omega
  have hdl : ds.length = n := by rw [← f1]; simp; omega
  have hsz : ops.toArray.size = n + (ops.length - n) := by simp; omega
  refine wp_region_any hm ?_
  rw [hsz]
  have inv0 : HeadInv .any ops.toArray n (Array.replicate (n + (ops.length - n)) false) :=
    ⟨by rw [hsz]; simp, fun j oj _ hl => (by rw [getD_replicate_false] at hl; cases hl), fun t _ ht => getD_in (by rw [← hsz] ; simpa using ht) (getD_replicate_false _ _)⟩
  refine wpAny_monoT hf hg ?_ n _ _ _ inv0 (by simp) ?_
  · intro listed a w hall h
    have ex : ∀ i : Nat, ∃ v, (∀ R : Prp, Rs[i]? = some R → R.R v w) ∧ ∀ d, ds[i]? = some (some d) → a.eval (.tmp d) = v := by
      intro i
      cases hR : Rs[i]? with
      | none =>
        refine ⟨undef, (fun R h => by cases h), fun d hd => ?_⟩
        have h1 := (List.getElem?_eq_some_iff.1 hd).1
        have h2 : Rs.length ≤ i := by simpa using hR
        omega
      | some R =>
        have hi : i < n := by have := (List.getElem?_eq_some_iff.1 hR).1; omega
        obtain ⟨v, h1, h2⟩ := h.holds i R (hall i hi) hR
        exact ⟨v, (fun R' hR' => by cases hR'; exact h1), h2⟩
    obtain ⟨u, hu⟩ := Classical.axiomOfChoice ex
    have hK := fin_at (w := w) u (by omega) (hfin w h.below) (fun i R hR => (hu i).1 R hR)
    have e : ds.zipIdx.foldl (fun a x => a.put x.1 (u x.2)) a0 = a := by
      obtain ⟨s1, s2⟩ := foldl_put_size u ds 0 a0
      have hts : (ds.zipIdx.foldl (fun a x => a.put x.1 (u x.2)) a0).tmps = a.tmps := by
        apply Array.ext (by rw [s1, h.size])
        intro t ht1 ht2
        have key : (ds.zipIdx.foldl (fun a x => a.put x.1 (u x.2)) a0).tmps[t]? = a.tmps[t]? := by
          by_cases hm : some t ∈ ds
          · obtain ⟨i, hi⟩ := List.mem_iff_getElem?.1 hm
            rw [foldl_put_at u t ds 0 a0 f2 (by rw [← h.size]; exact ht2) i hi, Nat.zero_add]
            have h3 := (hu i).2 t hi
            simp only [Act.eval, Array.getD_eq_getD_getElem?] at h3
            rw [Array.getElem?_eq_getElem ht2] at h3 ⊢
            simp at h3
            rw [h3]
          · rw [foldl_put_ne u t ds 0 a0 hm, h.same t hm]
        rw [Array.getElem?_eq_getElem ht1, Array.getElem?_eq_getElem ht2] at key
        exact Option.some.inj key
      generalize ds.zipIdx.foldl (fun a x => a.put x.1 (u x.2)) a0 = b at *
      obtain ⟨bt, bd⟩ := b
      obtain ⟨at', ad⟩ := a
      simp only at hts s2
      rw [hts, s2, ← h.defers]
    rw [e] at hK
    exact hK
  · exact ⟨Frame.ext_drew w0, rfl, rfl, fun _ _ => rfl, fun i R hi => by simp [Array.getD_eq_getD_getElem?, Array.getElem?_replicate] at hi; split at hi <;> cases hi⟩
end
end Go.Proofs.Yteiiifonejkjbaa.Mono
/-
  A REGION THAT DRAWS ITS ORDER, WHOSE SLOTS HOLD KNOWN VALUES, AND WHOSE WORLD IS KNOWN BY WHICH OPERATIONS HAVE RUN (J): each operation is shown once, whatever the order. No operation is guarded. No program is looked into here.
-/
namespace Go.Proofs.Yteiiifonejkjbaa.MonoU
open Go.RowKit Mono
set_option linter.unusedVariables false

/-- The value is the one that was said ahead. -/
def known (vs : List (Option Value)) (i : Nat) (v : Value) : Prop := ∀ c, vs.getD i none = some c → v = c
/-- What slot i holds: what was said ahead, or what came. -/
def pick (vs : List (Option Value)) (u : Nat → Value) (i : Nat) : Value := match vs.getD i none with | some c => c | none => u i
def upd (u : Nat → Value) (j : Nat) (v : Value) : Nat → Value := fun i => if i = j then v else u i
theorem pick_same {vs : List (Option Value)} {u : Nat → Value} {j : Nat} {v : Value} (h : known vs j v) : pick vs (upd u j v) j = v := by
  unfold pick
  cases hc : vs.getD j none with
  | none => simp [upd]
  | some c => simp; exact (h c hc).symm
theorem pick_ne {vs : List (Option Value)} {u : Nat → Value} {i j : Nat} {v : Value} (h : ¬ i = j) : pick vs (upd u j v) i = pick vs u i := by
  unfold pick upd
  rw [if_neg h]
section
variable (P : Program)
/-- What is to be shown of operation j: v is what its slot holds. -/
def OpGoal (ops : List Oper) (ds : List (Option Nat)) (vs : List (Option Value)) (J : Array Bool → (Nat → Value) → World → Prop) (a0 : Act) (j : Nat) (o : Oper) : Prop :=
  ∀ (listed : Array Bool) (u : Nat → Value) (a : Act) (w : World), J listed u w → listed.size = ops.length → listed.getD j true = false → (∀ e ∈ o.after.toList, Region.binds .any e = true → listed.getD e.on false = true) →
    (∀ t, some t ∉ ds → a.eval (.tmp t) = a0.eval (.tmp t)) → (∀ i d, listed.getD i false = true → ds[i]? = some (some d) → a.eval (.tmp d) = pick vs u i) → (∀ i d, listed.getD i false = false → ds[i]? = some (some d) → a.eval (.tmp d) = a0.eval (.tmp d)) →
    o.wp P a w (fun a' w' => ∃ v, a' = a.put o.dst v ∧ known vs j v ∧ J (listed.setIfInBounds j true) (upd u j v) w') (fun _ _ _ => False)
structure Inv (ds : List (Option Nat)) (vs : List (Option Value)) (J : Array Bool → (Nat → Value) → World → Prop) (a0 : Act) (listed : Array Bool) (u : Nat → Value) (a : Act) (w : World) : Prop where
  world : J listed u w
  size : a.tmps.size = a0.tmps.size
  defers : a.defers = a0.defers
  same : ∀ t, some t ∉ ds → a.tmps[t]? = a0.tmps[t]?
  holds : ∀ (i d : Nat), listed.getD i false = true → ds[i]? = some (some d) → a.eval (.tmp d) = pick vs u i
  fresh : ∀ (i d : Nat), listed.getD i false = false → ds[i]? = some (some d) → a.eval (.tmp d) = a0.eval (.tmp d)
end
section
variable {P : Program}
theorem uniq : ∀ (l : List (Option Nat)) (i j d : Nat), (l.filterMap id).Nodup → l[i]? = some (some d) → l[j]? = some (some d) → i = j := by
  intro l
  induction l with
  | nil => intro i j d _ h; simp at h
  | cons x l ih =>
    intro i j d hn hi hj
    cases i with
    | zero =>
      cases j with
      | zero => rfl
      | succ j =>
        simp at hi hj
        subst hi
        simp only [List.filterMap_cons, id] at hn
        rw [List.nodup_cons] at hn
        exact absurd (show d ∈ l.filterMap id from List.mem_filterMap.2 ⟨some d, List.mem_of_getElem? hj, rfl⟩) hn.1
    | succ i =>
      cases j with
      | zero =>
        simp at hi hj
        subst hj
        simp only [List.filterMap_cons, id] at hn
        rw [List.nodup_cons] at hn
        exact absurd (show d ∈ l.filterMap id from List.mem_filterMap.2 ⟨some d, List.mem_of_getElem? hi, rfl⟩) hn.1
      | succ j =>
        have hn' : (l.filterMap id).Nodup := by
          cases x with
          | none => simpa using hn
          | some x => simp only [List.filterMap_cons, id] at hn; exact (List.nodup_cons.1 hn).2
        rw [ih i j d hn' (by simpa using hi) (by simpa using hj)]
theorem step_op {ops : List Oper} {ds : List (Option Nat)} {vs : List (Option Value)} {J : Array Bool → (Nat → Value) → World → Prop} {a0 : Act} {Q : Exit → Act → World → Prop} {listed : Array Bool} {u : Nat → Value} {a : Act} {w : World} {K : Act → World → Prop}
    (hf : formB ops ds a0.tmps.size = true) (hgd : ∀ o ∈ ops, o.guard = none) (hg : ∀ (j : Nat) (o : Oper), ops[j]? = some o → OpGoal P ops ds vs J a0 j o) (hsz : listed.size = ops.length)
    (h : Inv ds vs J a0 listed u a w) {j : Nat} (hj : j ∈ Region.ready .any ops.toArray listed)
    (hK : ∀ u' a' w', Inv ds vs J a0 (listed.setIfInBounds j true) u' a' w' → K a' w') : wpOp P ops.toArray Q j K a w := by
  obtain ⟨hjun, o, ho, hall⟩ := mem_ready.1 hj
  have ho' : ops[j]? = some o := by simpa using ho
  simp only [formB, Bool.and_eq_true, beq_iff_eq, decide_eq_true_eq, List.all_eq_true] at hf
  obtain ⟨⟨⟨⟨f1, f2⟩, f3⟩, f4⟩, f5⟩ := hf
  have hdj : ds[j]? = some o.dst := by rw [← f1]; simp [ho']
  have hom : o ∈ ops := List.mem_of_getElem? ho'
  have goal := hg j o ho' listed u a w h.world hsz hjun (fun e he hbe => hall e (by simpa using he) hbe) (fun t ht => by simp [Act.eval, Array.getD_eq_getD_getElem?, h.same t ht]) h.holds h.fresh
  unfold wpOp
  simp only [ho]
  rw [show Region.wanted o (yielded ops.toArray a.tmps) = true by unfold Region.wanted; rw [hgd o hom]]
  rw [if_pos rfl]
  refine .inl (Oper.wp_mono (fun a' w' ⟨v, e, hkn, hJ⟩ => ?_) (wp_weaken goal))
  subst e
  refine hK (upd u j v) _ _ ⟨hJ, (put_size ..).trans h.size, (put_defers ..).trans h.defers, fun t ht => ?_, fun i d hi hd => ?_, fun i d hi hd => ?_⟩
  · rw [put_ne _ _ _ _ (fun e => ht (by rw [← e]; exact List.mem_of_getElem? hdj))]
    exact h.same t ht
  · by_cases hij : i = j
    · subst hij
      rw [hdj] at hd
      have hd' : o.dst = some d := Option.some.inj hd
      rw [hd', eval_put_same _ _ _ (by
        rw [h.size]
        have := f3 d (List.mem_filterMap.2 ⟨some d, by rw [← hd']; exact List.mem_of_getElem? hdj, rfl⟩)
        simpa using this)]
      exact (pick_same hkn).symm
    · have hi' : listed.getD i false = true := by
        simp only [Array.getD_eq_getD_getElem?] at hi ⊢
        rwa [Array.getElem?_setIfInBounds_ne (Ne.symm hij)] at hi
      rw [eval_put_ne _ _ _ _ (fun e => hij (uniq ds i j d f2 hd (by rw [hdj, e])))]
      rw [pick_ne hij]
      exact h.holds i d hi' hd
  · by_cases hij : i = j
    · subst hij
      have hlt : i < listed.size := by have := (List.getElem?_eq_some_iff.1 ho').1; omega
      simp [Array.getD_eq_getD_getElem?, hlt] at hi
    · have hi' : listed.getD i false = false := by
        simp only [Array.getD_eq_getD_getElem?] at hi ⊢
        rwa [Array.getElem?_setIfInBounds_ne (Ne.symm hij)] at hi
      rw [eval_put_ne _ _ _ _ (fun e => hij (uniq ds i j d f2 hd (by rw [hdj, e])))]
      exact h.fresh i d hi' hd
theorem wpAny_J {ops : List Oper} {ds : List (Option Nat)} {vs : List (Option Value)} {J : Array Bool → (Nat → Value) → World → Prop} {a0 : Act} {Q : Exit → Act → World → Prop}
    (hf : formB ops ds a0.tmps.size = true) (hgd : ∀ o ∈ ops, o.guard = none) (hg : ∀ (j : Nat) (o : Oper), ops[j]? = some o → OpGoal P ops ds vs J a0 j o)
    (hQ : ∀ listed u a w, listed.size = ops.length → (∀ i, i < ops.length → listed.getD i false = true) → Inv ds vs J a0 listed u a w → Q .normal a w) :
    ∀ (fuel : Nat) (listed : Array Bool) (u : Nat → Value) (a : Act) (w : World), listed.size = ops.length → listed.toList.count false ≤ fuel → Inv ds vs J a0 listed u a w → wpAny P .any ops.toArray Q fuel listed a w
  | 0, listed, u, a, w, hsz, hc, h => by
    have hall : ∀ i, i < ops.length → listed.getD i false = true := fun i hi => count_zero (by omega) i (by omega)
    refine ⟨?_, hQ listed u a w hsz hall h⟩
    cases hr : Region.ready .any ops.toArray listed with
    | nil => rfl
    | cons j l =>
      have hj : j ∈ Region.ready .any ops.toArray listed := by rw [hr]; simp
      obtain ⟨h1, o, ho, _⟩ := mem_ready.1 hj
      have hlt : j < ops.length := by simpa using (Array.getElem?_eq_some_iff.1 ho).1
      have h2 := hall j hlt
      simp [Array.getD_eq_getD_getElem?, show j < listed.size by omega] at h1 h2
      rw [h1] at h2
      cases h2
  | fuel + 1, listed, u, a, w, hsz, hc, h => by
    refine ⟨fun hr => hQ listed u a w hsz (fun i => ?_) h, fun j hj => ?_⟩
    · induction i using Nat.strongRecOn with
      | _ i ih =>
        intro hi
        have hlt : i < listed.size := by omega
        cases hb' : listed[i] with
        | true => simp [Array.getD_eq_getD_getElem?, hlt, hb']
        | false =>
          exfalso
          have : i ∈ Region.ready .any ops.toArray listed := by
            refine mem_ready.2 ⟨by simp [Array.getD_eq_getD_getElem?, hlt, hb'], ops[i], by simp, fun e he hbe => ?_⟩
            simp only [formB, Bool.and_eq_true, beq_iff_eq, decide_eq_true_eq, List.all_eq_true] at hf
            obtain ⟨⟨_, f4⟩, _⟩ := hf
            have h4 := f4 (ops[i], i) (by rw [List.mem_iff_getElem?]; exact ⟨i, by simp⟩)
            have h5 : e.on < i := by simpa [hbe] using h4 e (by simpa using he)
            exact ih e.on h5 (by omega)
          rw [hr] at this
          cases this
    · have h1 := (mem_ready.1 hj).1
      exact step_op hf hgd hg hsz h hj (fun u' a' w' h' => wpAny_J hf hgd hg hQ fuel _ u' a' w' (by simpa using hsz) (by have := count_set h1; omega) h')
/-- The goals, one behind the other. -/
def OpGoals (P : Program) (ops : List Oper) (ds : List (Option Nat)) (vs : List (Option Value)) (J : Array Bool → (Nat → Value) → World → Prop) (a0 : Act) : Nat → List Oper → Prop
  | j, o :: os => OpGoal P ops ds vs J a0 j o ∧ OpGoals P ops ds vs J a0 (j + 1) os
  | _, [] => True
theorem opGoals_at {ops : List Oper} {ds : List (Option Nat)} {vs : List (Option Value)} {J : Array Bool → (Nat → Value) → World → Prop} {a0 : Act} : ∀ {os : List Oper} {k : Nat}, OpGoals P ops ds vs J a0 k os → ∀ (i : Nat) (o : Oper), os[i]? = some o → OpGoal P ops ds vs J a0 (k + i) o
  | [], _, _, i, o, h => by simp at h
  | o' :: os, k, h, i, o, ho => by
    cases i with
    | zero =>
      simp at ho
      subst ho
      exact h.1
    | succ i =>
      have := opGoals_at h.2 i o (by simpa using ho)
      rw [show k + 1 + i = k + (i + 1) from by omega] at this
      simpa using this
theorem getD_set_ne {l : Array Bool} {i j : Nat} (h : j ≠ i) : (l.setIfInBounds j true).getD i false = l.getD i false := by
  simp only [Array.getD_eq_getD_getElem?]
  rw [Array.getElem?_setIfInBounds_ne h]
theorem getD_set_same {l : Array Bool} {j : Nat} (h : j < l.size) : (l.setIfInBounds j true).getD j false = true := by
  simp [Array.getD_eq_getD_getElem?, h]
theorem getD_false {l : Array Bool} {j : Nat} (h : l.getD j true = false) : l.getD j false = false := by
  simp only [Array.getD_eq_getD_getElem?] at h ⊢
  cases hj : l[j]? with
  | none => rfl
  | some b => rw [hj] at h; simpa using h
/-- THE LAW: a drawn region whose slots hold known values. -/
theorem wp_region_U {id : Nat} {ops : List Oper} {Q : Exit → Act → World → Prop} {a0 : Act} {w0 : World} (ds : List (Option Nat)) (vs : List (Option Value)) (J : Array Bool → (Nat → Value) → World → Prop) (hm : P.follows .mixedOrders = true)
    (hf : formB ops ds a0.tmps.size = true) (hgd : (ops.all fun o => o.guard.isNone) = true) (u0 : Nat → Value) (h0 : J (Array.replicate ops.length false) u0 w0.drew) (hg' : OpGoals P ops ds vs J a0 0 ops)
    (hfin : ∀ u w, J (Array.replicate ops.length true) u w → Q .normal (ds.zipIdx.foldl (fun a x => a.put x.1 (pick vs u x.2)) a0) w) : (Code.region id ops.toArray true).wp P Q a0 w0 := by
  have hg : ∀ (j : Nat) (o : Oper), ops[j]? = some o → OpGoal P ops ds vs J a0 j o := fun j o ho => by
    have := opGoals_at hg' j o ho
    rwa [Nat.zero_add] at this
  have hgd' : ∀ o ∈ ops, o.guard = none := fun o ho => by
    have := List.all_eq_true.1 hgd o ho
    simpa using this
  have hf' := hf
  simp only [formB, Bool.and_eq_true, beq_iff_eq, decide_eq_true_eq, List.all_eq_true] at hf'
  obtain ⟨⟨⟨⟨f1, f2⟩, f3⟩, _⟩, _⟩ := hf'
  have hdl : ds.length = ops.length := by rw [← f1]; simp
  refine wp_region_any hm (wpAny_J hf hgd' hg ?_ _ _ u0 _ _ (by simp) ?_ ?_)
  · intro listed u a w hsz hall h
    have hl : listed = Array.replicate ops.length true := by
      apply Array.ext (by simpa using hsz)
      intro i h1 h2
      have := hall i (by omega)
      rw [Array.getD_eq_getD_getElem?, Array.getElem?_eq_getElem h1] at this
      simpa using this
    subst hl
    have hK := hfin u w h.world
    have e : ds.zipIdx.foldl (fun a x => a.put x.1 (pick vs u x.2)) a0 = a := by
      obtain ⟨s1, s2⟩ := foldl_put_size (fun i => pick vs u i) ds 0 a0
      have hts : (ds.zipIdx.foldl (fun a x => a.put x.1 (pick vs u x.2)) a0).tmps = a.tmps := by
        apply Array.ext (by rw [s1, h.size])
        intro t ht1 ht2
        have key : (ds.zipIdx.foldl (fun a x => a.put x.1 (pick vs u x.2)) a0).tmps[t]? = a.tmps[t]? := by
          by_cases hm : some t ∈ ds
          · obtain ⟨i, hi⟩ := List.mem_iff_getElem?.1 hm
            rw [foldl_put_at (fun i => pick vs u i) t ds 0 a0 f2 (by rw [← h.size]; exact ht2) i hi, Nat.zero_add]
            have hil : i < ops.length := by have := (List.getElem?_eq_some_iff.1 hi).1; omega
            have h3 := h.holds i t (hall i hil) hi
            simp only [Act.eval, Array.getD_eq_getD_getElem?] at h3
            rw [Array.getElem?_eq_getElem ht2] at h3 ⊢
            simp at h3
            rw [h3]
          · rw [foldl_put_ne (fun i => pick vs u i) t ds 0 a0 hm, h.same t hm]
        rw [Array.getElem?_eq_getElem ht1, Array.getElem?_eq_getElem ht2] at key
        exact Option.some.inj key
      generalize ds.zipIdx.foldl (fun a x => a.put x.1 (pick vs u x.2)) a0 = b at *
      obtain ⟨bt, bd⟩ := b
      obtain ⟨at', ad⟩ := a
      simp only at hts s2
      rw [hts, s2, ← h.defers]
    rw [e] at hK
    exact hK
  · simp
  · refine ⟨by simpa using h0, rfl, rfl, fun _ _ => rfl, fun i d hi => ?_, fun _ _ _ _ => rfl⟩
    simp [Array.getD_eq_getD_getElem?, Array.getElem?_replicate] at hi
    split at hi <;> cases hi
end
end Go.Proofs.Yteiiifonejkjbaa.MonoU
/-
  A REGION THAT DRAWS ITS ORDER, WHOSE SLOTS HOLD KNOWN VALUES, AND WHOSE WORLD IS KNOWN BY WHICH OPERATIONS HAVE RUN (J): each operation is shown once, whatever the order. No operation is guarded. No program is looked into here.
-/
namespace Go.Proofs.Yteiiifonejkjbaa.MonoJ
open Go.RowKit Mono
set_option linter.unusedVariables false

section
variable (P : Program)
/-- What is to be shown of operation j: v is what its slot holds. -/
def OpGoal (ops : List Oper) (ds : List (Option Nat)) (vs : List Value) (J : Array Bool → World → Prop) (a0 : Act) (j : Nat) (o : Oper) (v : Value) : Prop :=
  ∀ (listed : Array Bool) (a : Act) (w : World), J listed w → listed.size = ops.length → listed.getD j true = false → (∀ e ∈ o.after.toList, Region.binds .any e = true → listed.getD e.on false = true) →
    (∀ t, some t ∉ ds → a.eval (.tmp t) = a0.eval (.tmp t)) → (∀ i d, listed.getD i false = true → ds[i]? = some (some d) → a.eval (.tmp d) = vs.getD i undef) →
    o.wp P a w (fun a' w' => a' = a.put o.dst v ∧ J (listed.setIfInBounds j true) w') (fun _ _ _ => False)
structure Inv (ds : List (Option Nat)) (vs : List Value) (J : Array Bool → World → Prop) (a0 : Act) (listed : Array Bool) (a : Act) (w : World) : Prop where
  world : J listed w
  size : a.tmps.size = a0.tmps.size
  defers : a.defers = a0.defers
  same : ∀ t, some t ∉ ds → a.tmps[t]? = a0.tmps[t]?
  holds : ∀ (i d : Nat), listed.getD i false = true → ds[i]? = some (some d) → a.eval (.tmp d) = vs.getD i undef
end
section
variable {P : Program}
theorem uniq : ∀ (l : List (Option Nat)) (i j d : Nat), (l.filterMap id).Nodup → l[i]? = some (some d) → l[j]? = some (some d) → i = j := by
  intro l
  induction l with
  | nil => intro i j d _ h; simp at h
  | cons x l ih =>
    intro i j d hn hi hj
    cases i with
    | zero =>
      cases j with
      | zero => rfl
      | succ j =>
        simp at hi hj
        subst hi
        simp only [List.filterMap_cons, id] at hn
        rw [List.nodup_cons] at hn
        exact absurd (show d ∈ l.filterMap id from List.mem_filterMap.2 ⟨some d, List.mem_of_getElem? hj, rfl⟩) hn.1
    | succ i =>
      cases j with
      | zero =>
        simp at hi hj
        subst hj
        simp only [List.filterMap_cons, id] at hn
        rw [List.nodup_cons] at hn
        exact absurd (show d ∈ l.filterMap id from List.mem_filterMap.2 ⟨some d, List.mem_of_getElem? hi, rfl⟩) hn.1
      | succ j =>
        have hn' : (l.filterMap id).Nodup := by
          cases x with
          | none => simpa using hn
          | some x => simp only [List.filterMap_cons, id] at hn; exact (List.nodup_cons.1 hn).2
        rw [ih i j d hn' (by simpa using hi) (by simpa using hj)]
theorem step_op {ops : List Oper} {ds : List (Option Nat)} {vs : List Value} {J : Array Bool → World → Prop} {a0 : Act} {Q : Exit → Act → World → Prop} {listed : Array Bool} {a : Act} {w : World} {K : Act → World → Prop}
    (hf : formB ops ds a0.tmps.size = true) (hgd : ∀ o ∈ ops, o.guard = none) (hg : ∀ (j : Nat) (o : Oper), ops[j]? = some o → OpGoal P ops ds vs J a0 j o (vs.getD j undef)) (hsz : listed.size = ops.length)
    (h : Inv ds vs J a0 listed a w) {j : Nat} (hj : j ∈ Region.ready .any ops.toArray listed)
    (hK : ∀ a' w', Inv ds vs J a0 (listed.setIfInBounds j true) a' w' → K a' w') : wpOp P ops.toArray Q j K a w := by
  obtain ⟨hjun, o, ho, hall⟩ := mem_ready.1 hj
  have ho' : ops[j]? = some o := by simpa using ho
  simp only [formB, Bool.and_eq_true, beq_iff_eq, decide_eq_true_eq, List.all_eq_true] at hf
  obtain ⟨⟨⟨⟨f1, f2⟩, f3⟩, f4⟩, f5⟩ := hf
  have hdj : ds[j]? = some o.dst := by rw [← f1]; simp [ho']
  have hom : o ∈ ops := List.mem_of_getElem? ho'
  have goal := hg j o ho' listed a w h.world hsz hjun (fun e he hbe => hall e (by simpa using he) hbe) (fun t ht => by simp [Act.eval, Array.getD_eq_getD_getElem?, h.same t ht]) h.holds
  unfold wpOp
  simp only [ho]
  rw [show Region.wanted o (yielded ops.toArray a.tmps) = true by unfold Region.wanted; rw [hgd o hom]]
  rw [if_pos rfl]
  refine .inl (Oper.wp_mono (fun a' w' ⟨e, hJ⟩ => ?_) (wp_weaken goal))
  subst e
  refine hK _ _ ⟨hJ, (put_size ..).trans h.size, (put_defers ..).trans h.defers, fun t ht => ?_, fun i d hi hd => ?_⟩
  · rw [put_ne _ _ _ _ (fun e => ht (by rw [← e]; exact List.mem_of_getElem? hdj))]
    exact h.same t ht
  · by_cases hij : i = j
    · subst hij
      rw [hdj] at hd
      have hd' : o.dst = some d := Option.some.inj hd
      rw [hd', eval_put_same _ _ _ (by
        rw [h.size]
        have := f3 d (List.mem_filterMap.2 ⟨some d, by rw [← hd']; exact List.mem_of_getElem? hdj, rfl⟩)
        simpa using this)]
    · have hi' : listed.getD i false = true := by
        simp only [Array.getD_eq_getD_getElem?] at hi ⊢
        rwa [Array.getElem?_setIfInBounds_ne (Ne.symm hij)] at hi
      rw [eval_put_ne _ _ _ _ (fun e => hij (uniq ds i j d f2 hd (by rw [hdj, e])))]
      exact h.holds i d hi' hd
theorem wpAny_J {ops : List Oper} {ds : List (Option Nat)} {vs : List Value} {J : Array Bool → World → Prop} {a0 : Act} {Q : Exit → Act → World → Prop}
    (hf : formB ops ds a0.tmps.size = true) (hgd : ∀ o ∈ ops, o.guard = none) (hg : ∀ (j : Nat) (o : Oper), ops[j]? = some o → OpGoal P ops ds vs J a0 j o (vs.getD j undef))
    (hQ : ∀ listed a w, listed.size = ops.length → (∀ i, i < ops.length → listed.getD i false = true) → Inv ds vs J a0 listed a w → Q .normal a w) :
    ∀ (fuel : Nat) (listed : Array Bool) (a : Act) (w : World), listed.size = ops.length → listed.toList.count false ≤ fuel → Inv ds vs J a0 listed a w → wpAny P .any ops.toArray Q fuel listed a w
  | 0, listed, a, w, hsz, hc, h => by
    have hall : ∀ i, i < ops.length → listed.getD i false = true := fun i hi => count_zero (by omega) i (by omega)
    refine ⟨?_, hQ listed a w hsz hall h⟩
    cases hr : Region.ready .any ops.toArray listed with
    | nil => rfl
    | cons j l =>
      have hj : j ∈ Region.ready .any ops.toArray listed := by rw [hr]; simp
      obtain ⟨h1, o, ho, _⟩ := mem_ready.1 hj
      have hlt : j < ops.length := by simpa using (Array.getElem?_eq_some_iff.1 ho).1
      have h2 := hall j hlt
      simp [Array.getD_eq_getD_getElem?, show j < listed.size by omega] at h1 h2
      rw [h1] at h2
      cases h2
  | fuel + 1, listed, a, w, hsz, hc, h => by
    refine ⟨fun hr => hQ listed a w hsz (fun i => ?_) h, fun j hj => ?_⟩
    · induction i using Nat.strongRecOn with
      | _ i ih =>
        intro hi
        have hlt : i < listed.size := by omega
        cases hb' : listed[i] with
        | true => simp [Array.getD_eq_getD_getElem?, hlt, hb']
        | false =>
          exfalso
          have : i ∈ Region.ready .any ops.toArray listed := by
            refine mem_ready.2 ⟨by simp [Array.getD_eq_getD_getElem?, hlt, hb'], ops[i], by simp, fun e he hbe => ?_⟩
            simp only [formB, Bool.and_eq_true, beq_iff_eq, decide_eq_true_eq, List.all_eq_true] at hf
            obtain ⟨⟨_, f4⟩, _⟩ := hf
            have h4 := f4 (ops[i], i) (by rw [List.mem_iff_getElem?]; exact ⟨i, by simp⟩)
            have h5 : e.on < i := by simpa [hbe] using h4 e (by simpa using he)
            exact ih e.on h5 (by omega)
          rw [hr] at this
          cases this
    · have h1 := (mem_ready.1 hj).1
      exact step_op hf hgd hg hsz h hj (fun a' w' h' => wpAny_J hf hgd hg hQ fuel _ a' w' (by simpa using hsz) (by have := count_set h1; omega) h')
/-- The goals, one behind the other. -/
def OpGoals (P : Program) (ops : List Oper) (ds : List (Option Nat)) (vs : List Value) (J : Array Bool → World → Prop) (a0 : Act) : Nat → List Oper → List Value → Prop
  | j, o :: os, v :: rs => OpGoal P ops ds vs J a0 j o v ∧ OpGoals P ops ds vs J a0 (j + 1) os rs
  | _, [], [] => True
  | _, _, _ => False
theorem opGoals_at {ops : List Oper} {ds : List (Option Nat)} {vs : List Value} {J : Array Bool → World → Prop} {a0 : Act} : ∀ {os : List Oper} {rs : List Value} {k : Nat}, OpGoals P ops ds vs J a0 k os rs → ∀ (i : Nat) (o : Oper), os[i]? = some o → OpGoal P ops ds vs J a0 (k + i) o (rs.getD i undef)
  | [], [], _, _, i, o, h => by simp at h
  | [], _ :: _, _, h, _, _, _ => h.elim
  | _ :: _, [], _, h, _, _, _ => h.elim
  | o' :: os, v :: rs, k, h, i, o, ho => by
    cases i with
    | zero =>
      simp at ho
      subst ho
      exact h.1
    | succ i =>
      have := opGoals_at h.2 i o (by simpa using ho)
      rw [show k + 1 + i = k + (i + 1) from by omega] at this
      simpa using this
theorem getD_set_ne {l : Array Bool} {i j : Nat} (h : j ≠ i) : (l.setIfInBounds j true).getD i false = l.getD i false := by
  simp only [Array.getD_eq_getD_getElem?]
  rw [Array.getElem?_setIfInBounds_ne h]
theorem getD_set_same {l : Array Bool} {j : Nat} (h : j < l.size) : (l.setIfInBounds j true).getD j false = true := by
  simp [Array.getD_eq_getD_getElem?, h]
theorem getD_false {l : Array Bool} {j : Nat} (h : l.getD j true = false) : l.getD j false = false := by
  simp only [Array.getD_eq_getD_getElem?] at h ⊢
  cases hj : l[j]? with
  | none => rfl
  | some b => rw [hj] at h; simpa using h
/-- THE LAW: a drawn region whose slots hold known values. -/
theorem wp_region_J {id : Nat} {ops : List Oper} {Q : Exit → Act → World → Prop} {a0 : Act} {w0 : World} (ds : List (Option Nat)) (vs : List Value) (J : Array Bool → World → Prop) (hm : P.follows .mixedOrders = true)
    (hf : formB ops ds a0.tmps.size = true) (hgd : (ops.all fun o => o.guard.isNone) = true) (h0 : J (Array.replicate ops.length false) w0.drew) (hg' : OpGoals P ops ds vs J a0 0 ops vs)
    (hfin : ∀ w, J (Array.replicate ops.length true) w → Q .normal (ds.zipIdx.foldl (fun a x => a.put x.1 (vs.getD x.2 undef)) a0) w) : (Code.region id ops.toArray true).wp P Q a0 w0 := by
  have hg : ∀ (j : Nat) (o : Oper), ops[j]? = some o → OpGoal P ops ds vs J a0 j o (vs.getD j undef) := fun j o ho => by
    have := opGoals_at hg' j o ho
    rwa [Nat.zero_add] at this
  have hgd' : ∀ o ∈ ops, o.guard = none := fun o ho => by
    have := List.all_eq_true.1 hgd o ho
    simpa using this
  have hf' := hf
  simp only [formB, Bool.and_eq_true, beq_iff_eq, decide_eq_true_eq, List.all_eq_true] at hf'
  obtain ⟨⟨⟨⟨f1, f2⟩, f3⟩, _⟩, _⟩ := hf'
  have hdl : ds.length = ops.length := by rw [← f1]; simp
  refine wp_region_any hm (wpAny_J hf hgd' hg ?_ _ _ _ _ (by simp) ?_ ?_)
  · intro listed a w hsz hall h
    have hl : listed = Array.replicate ops.length true := by
      apply Array.ext (by simpa using hsz)
      intro i h1 h2
      have := hall i (by omega)
      rw [Array.getD_eq_getD_getElem?, Array.getElem?_eq_getElem h1] at this
      simpa using this
    subst hl
    have hK := hfin w h.world
    have e : ds.zipIdx.foldl (fun a x => a.put x.1 (vs.getD x.2 undef)) a0 = a := by
      obtain ⟨s1, s2⟩ := foldl_put_size (fun i => vs.getD i undef) ds 0 a0
      have hts : (ds.zipIdx.foldl (fun a x => a.put x.1 (vs.getD x.2 undef)) a0).tmps = a.tmps := by
        apply Array.ext (by rw [s1, h.size])
        intro t ht1 ht2
        have key : (ds.zipIdx.foldl (fun a x => a.put x.1 (vs.getD x.2 undef)) a0).tmps[t]? = a.tmps[t]? := by
          by_cases hm : some t ∈ ds
          · obtain ⟨i, hi⟩ := List.mem_iff_getElem?.1 hm
            rw [foldl_put_at (fun i => vs.getD i undef) t ds 0 a0 f2 (by rw [← h.size]; exact ht2) i hi, Nat.zero_add]
            have hil : i < ops.length := by have := (List.getElem?_eq_some_iff.1 hi).1; omega
            have h3 := h.holds i t (hall i hil) hi
            simp only [Act.eval, Array.getD_eq_getD_getElem?] at h3
            rw [Array.getElem?_eq_getElem ht2] at h3 ⊢
            simp at h3
            rw [h3]
            simp
          · rw [foldl_put_ne (fun i => vs.getD i undef) t ds 0 a0 hm, h.same t hm]
        rw [Array.getElem?_eq_getElem ht1, Array.getElem?_eq_getElem ht2] at key
        exact Option.some.inj key
      generalize ds.zipIdx.foldl (fun a x => a.put x.1 (vs.getD x.2 undef)) a0 = b at *
      obtain ⟨bt, bd⟩ := b
      obtain ⟨at', ad⟩ := a
      simp only at hts s2
      rw [hts, s2, ← h.defers]
    rw [e] at hK
    exact hK
  · simp
  · refine ⟨by simpa using h0, rfl, rfl, fun _ _ => rfl, fun i d hi => ?_⟩
    simp [Array.getD_eq_getD_getElem?, Array.getElem?_replicate] at hi
    split at hi <;> cases hi
end
end Go.Proofs.Yteiiifonejkjbaa.MonoJ
/-
  Properties of slots for drawn regions: 'reads as these numbers'.
-/
namespace Go.Proofs.Yteiiifonejkjbaa
open Go.RowKit

/-- The slot reads as these numbers. -/
def readsP (k : IntKind) (xs : List Int) : Mono.Prp := ⟨fun v w => Mem.Reads k w v xs, fun _ _ _ h hb => h.below hb⟩
end Go.Proofs.Yteiiifonejkjbaa
/-
  BLOCKS OF CELLS IN MEMORY: a block g that holds the row cs; what stays of it; how a call ends that answers out of such a block. No program is looked into here.
-/
namespace Go.Proofs.Yteiiifonejkjbaa.Cells
open Go.RowKit
set_option linter.unusedVariables false

/-- The block g holds the cells cs, of the type ty. -/
def At (u : World) (g : Nat) (ty : TypeId) (cs : Array Value) : Prop := u.heap[g]? = some (.cells cs ty (0, 0))
section
variable {u u' : World} {g k : Nat} {ty : TypeId} {cs ds : Array Value}
theorem At.cell (h : At u g ty cs) (j : Nat) : u.cell? ⟨g, j, none⟩ = cs[j]? := cell_of_row u g j _ ty (0, 0) h
theorem At.free (h : At u g ty cs) (j : Nat) : u.frozen? ⟨g, j, none⟩ = false := by simp [World.frozen?, show u.heap[g]? = _ from h]
theorem At.lt (h : At u g ty cs) : g < u.heap.size := (Array.getElem?_eq_some_iff.1 h).1
theorem At.below {B : Nat} (h : At u g ty cs) (hb : Below B u u') (hg : g < B) : At u' g ty cs := by unfold At; rw [hb.block _ hg]; exact h
theorem At.ext (h : At u g ty cs) (hb : Below u.heap.size u u') : At u' g ty cs := h.below hb h.lt
theorem At.grown (h : At u g ty cs) (hg : u.grownBy u' (some k)) (hn : g ≠ k) : At u' g ty cs := by unfold At; rw [hg.block _ h.lt (by simpa using hn)]; exact h
theorem At.alloc (h : At u g ty cs) (o : Obj) : At (u.alloc o) g ty cs := by unfold At; rw [Below.heap_alloc _ _ _ h.lt]; exact h
theorem At.drew (h : At u g ty cs) : At u.drew g ty cs := h
theorem At.new (u : World) (ty : TypeId) (cs : Array Value) : At (u.alloc (.cells cs ty)) u.heap.size ty cs := Array.getElem?_push_size
theorem At.new1 (u : World) (o : Obj) (ty : TypeId) (cs : Array Value) : At ((u.alloc o).alloc (.cells cs ty)) (u.heap.size + 1) ty cs := by
  have := At.new (u.alloc o) ty cs
  rwa [show (u.alloc o).heap.size = u.heap.size + 1 from by simp] at this
theorem At.new2 (u : World) (o o' : Obj) (ty : TypeId) (cs : Array Value) : At (((u.alloc o).alloc o').alloc (.cells cs ty)) (u.heap.size + 1 + 1) ty cs := by
  have := At.new ((u.alloc o).alloc o') ty cs
  rwa [show ((u.alloc o).alloc o').heap.size = u.heap.size + 1 + 1 from by simp] at this
theorem At.new3 (u : World) (o o' o'' : Obj) (ty : TypeId) (cs : Array Value) : At ((((u.alloc o).alloc o').alloc o'').alloc (.cells cs ty)) (u.heap.size + 1 + 1 + 1) ty cs := by
  have := At.new (((u.alloc o).alloc o').alloc o'') ty cs
  rwa [show (((u.alloc o).alloc o').alloc o'').heap.size = u.heap.size + 1 + 1 + 1 from by simp] at this
theorem At.row (h : At u g ty cs) : At (u.setRow g ds) g ty ds := setRow_heap _ _ _ _ _ _ h
theorem At.row_other (h : At u g ty cs) (hn : g ≠ k) : At (u.setRow k ds) g ty cs := by unfold At; rw [setRow_other _ _ _ _ hn]; exact h
theorem At.set {j : Nat} {v : Value} (h : At u g ty cs) (e : cs.set! j v = ds) : At (u.setCell ⟨g, j, none⟩ v) g ty ds := by
  unfold At
  rw [setCell_eq_setRow _ _ _ _ _ _ _ h, setRow_heap _ _ _ _ _ _ h]
  exact congrArg (fun c => some (Obj.cells c ty (0, 0))) e
theorem At.other {j : Nat} {v : Value} (h : At u g ty cs) (hn : g ≠ k) : At (u.setCell ⟨k, j, none⟩ v) g ty cs := by unfold At; rw [Below.heap_setCell _ _ _ _ hn]; exact h
theorem At.of (h : At u g ty cs) (e : cs = ds) : At u g ty ds := e ▸ h
end

theorem grown_refl (u : World) (r : Option Nat) : u.grownBy u r := ⟨rfl, rfl, rfl, Nat.le_refl _, fun _ _ _ => rfl⟩
theorem grown_setCell {u u' : World} {g j : Nat} {v : Value} (h : u.grownBy u' (some g)) : u.grownBy (u'.setCell ⟨g, j, none⟩ v) (some g) :=
  ⟨h.os, h.tape, h.output, by simpa [World.setCell] using h.size, fun k hk hn => (Below.heap_setCell _ _ _ _ (fun e => hn (by rw [e]))).trans (h.block k hk hn)⟩
theorem grown_drew {u u' : World} {r : Option Nat} (h : u.grownBy u' r) : u.grownBy u'.drew r := ⟨h.os, h.tape, h.output, h.size, h.block⟩
theorem grown_trans {a b c : World} {r : Option Nat} (h : a.grownBy b r) (k : b.grownBy c r) : a.grownBy c r :=
  ⟨k.os.trans h.os, k.tape.trans h.tape, k.output.trans h.output, Nat.le_trans h.size k.size, fun i hi hn => (k.block i (Nat.lt_of_lt_of_le hi h.size) hn).trans (h.block i hi hn)⟩
theorem grown_below {a b : World} (r : Option Nat) (h : Below a.heap.size a b) : a.grownBy b r := ⟨h.os, h.tape, h.output, h.size, fun k hk _ => h.block k hk⟩
/-- A world in which only new blocks, and blocks from B on, have turned. -/
theorem below_grown {B : Nat} {a w w' : World} {g : Nat} (h : Below B a w) (hg : w.grownBy w' (some g)) (hB : B ≤ w.heap.size) (hr : B ≤ g) : Below B a w' := h.grown hg hB (fun k e => by cases e; exact hr)
theorem below_of {a b : World} {k : Nat} (h : Below a.heap.size a b) (hk : a.heap.size = k) : Below k a b := hk ▸ h

section
variable {P : Program} {fn : Func} {p u : Tmp} {a : Act} {w : World} {g : Nat} {ty : TypeId} {d : TypeDesc} {cs : Array Value} {c : Value} {R : Ending → World → Prop}
/-- A call that answers a struct out of its cell. -/
theorem end_cell (h : fn.results = #[.cell p ty]) (hp : a.tmps.getD p undef = .pointer (some ⟨g, 0, none⟩)) (hat : At w g ty cs)
    (hu : P.underlying ty = some d) (hd : (match d with | .struct _ | .array _ _ => true | _ => false) = true) (hi : (P.info? ty).map (·.size) = some cs.size)
    (hdf : a.defers = []) (hR : R (.returned (.agg cs)) w) : bodyPost P fn R Exit.ret a w :=
  ⟨hdf, _, results_cell_row h _ _ g ty cs (0, 0) _ hp hat hu hd hi, hR⟩
/-- A call that answers a struct out of its cell, and one value more. -/
theorem end_cell_tmp (h : fn.results = #[.cell p ty, .tmp u]) (hp : a.tmps.getD p undef = .pointer (some ⟨g, 0, none⟩)) (hat : At w g ty cs)
    (hu : P.underlying ty = some d) (hd : (match d with | .struct _ | .array _ _ => true | _ => false) = true) (hi : (P.info? ty).map (·.size) = some cs.size)
    (hc : a.tmps.getD u undef = c) (hdf : a.defers = []) (hR : R (.returned (.tuple #[.agg cs, c])) w) : bodyPost P fn R Exit.ret a w := by
  refine ⟨hdf, _, ?_, hR⟩
  rw [results_cell_tmp h, hp, hc]
  simp only [asAddr]
  rw [show (Sem.run P (pure (⟨g, 0, none⟩ : Addr)) w) = .ok ⟨g, 0, none⟩ w from rfl]
  show ((loadVar ty ⟨g, 0, none⟩).run P w).andThen _ = _
  rw [run_loadVar_row w g ty ty _ (0, 0) _ hat hu hd hi]
  rfl
end
end Go.Proofs.Yteiiifonejkjbaa.Cells
/-
  OPERATIONS WITH THE WORLD BEHIND THEM UNNAMED: a store into a block that is known whole; a struct put behind a list of the call's own. No program is looked into here.
-/
namespace Go.Proofs.Yteiiifonejkjbaa.Ops
open Go.RowKit Mem Cells
set_option linter.unusedVariables false

section
variable {P : Program} {w : World} {ops : Array Oper} {rest : List Oper} {o : Oper} {a : Act} {Q : Exit → Act → World → Prop}
theorem cells_one {v : Value} (h : v.oneCell' = true) : v.cells = #[v] := by cases v <;> first | rfl | cases h

/-- A store into one cell of a block that is known whole. -/
theorem wpl_storeC (hgd : o.guard = none) (ty : TypeId) (x y : Operand) (ho : o.op = .store ty x y) (hd : o.dst = none) (g j : Nat) (T : TypeId) (cs ds : Array Value) (v : Value)
    (hx : a.eval x = .pointer (some ⟨g, j, none⟩)) (hy : a.eval y = v) (hat : At w g T cs) (hj : j < cs.size) (hi : (P.info? ty).map (·.size) = some 1) (h1 : v.oneCell' = true) (e : cs.set! j v = ds)
    (h : ∀ w', At w' g T ds → w.grownBy w' (some g) → wpList P ops Q rest a w') : wpList P ops Q (o :: rest) a w := by
  refine wpList_plain hgd fun K hK => ?_
  have hc := hat.cell j
  rw [Array.getElem?_eq_getElem hj] at hc
  have hf := hat.free j
  have hrun : (storeVar ty ⟨g, j, none⟩ v).run P w = .ok () (w.setCell ⟨g, j, none⟩ v) := by
    cases hq : P.info? ty with
    | none => simp [hq] at hi
    | some i =>
      have hs : i.size = 1 := by simpa [hq] using hi
      have ha : (⟨g, j, none⟩ : Addr).add 0 = ⟨g, j, none⟩ := by unfold Addr.add; split <;> simp_all
      simp [storeVar, sizeOf, typeInfo, hq, cells_one h1, hs, storeCells, ha, run_store P w _ v _ h1, hc, hf]
  unfold Oper.wp execOp
  simp only [ho, hx, hy, Instr.storeAt, Instr.sureAddr, Sem.run_bind, Sem.run_pure, Result.andThen_ok, hrun]
  refine hK _ _ ?_
  rw [hd]
  exact h _ (hat.set e) (grown_setCell (grown_refl w _))
/-- A store of a whole row. -/
theorem wpl_storeR (hgd : o.guard = none) (ty : TypeId) (x y : Operand) (ho : o.op = .store ty x y) (hd : o.dst = none) (g : Nat) (T : TypeId) (cs ds : Array Value)
    (hx : a.eval x = .pointer (some ⟨g, 0, none⟩)) (hy : a.eval y = .agg ds) (hat : At w g T cs) (hi : (P.info? ty).map (·.size) = some ds.size) (hs : cs.size = ds.size) (h1 : ds.all (·.oneCell') = true)
    (h : ∀ w', At w' g T ds → w.grownBy w' (some g) → wpList P ops Q rest a w') : wpList P ops Q (o :: rest) a w := by
  refine wpList_store_row hgd ty x y ho g ds hx hy T cs hat hi hs h1 ?_
  rw [hd]
  exact h _ hat.row ⟨rfl, rfl, rfl, by simp, fun q _ hq => setRow_other _ _ _ _ (fun e => hq (by rw [e]))⟩
/-- A new cell of a type, zero. -/
theorem wpl_allocAt (hgd : o.guard = none) (T : TypeId) (ho : o.op = .alloc T) (cs : Array Value) (hz : ((P.info? T).bind (·.zero)).map (·.cells) = some cs)
    (h : ∀ w', At w' w.heap.size T cs → Below w.heap.size w w' → w'.heap.size = w.heap.size + 1 → wpList P ops Q rest (a.put o.dst (.pointer (some ⟨w.heap.size, 0, none⟩))) w') : wpList P ops Q (o :: rest) a w := by
  refine wpList_plain hgd fun K hK => ?_
  cases hi : P.info? T with
  | none => simp [hi] at hz
  | some i =>
    cases hzz : i.zero with
    | none => simp [hi, hzz] at hz
    | some z =>
      have hc : z.cells = cs := by simpa [hi, hzz] using hz
      have hrun : (Instr.alloc T true (.tuple #[])).run P w = .ok (.pointer (some ⟨w.heap.size, 0, none⟩)) (w.alloc (.cells cs T)) := by
        simp [Instr.alloc, zeroValue, typeInfo, hi, hzz, newVar, newRow, hc]
      unfold Oper.wp execOp
      simp only [ho, Sem.run_bind, hrun, Result.andThen_ok]
      exact hK _ _ (h _ (At.new w T cs) ((Below.refl _ _).alloc (Nat.le_refl _) _) (by simp))
/-- A value goes into a new block. -/
theorem wpl_boxAt (hgd : o.guard = none) (T : TypeId) (x : Operand) (ho : o.op = .box T x) (cs : Array Value) (hx : (a.eval x).cells = cs)
    (h : ∀ w', At w' w.heap.size T cs → Below w.heap.size w w' → w'.heap.size = w.heap.size + 1 → wpList P ops Q rest (a.put o.dst (.pointer (some ⟨w.heap.size, 0, none⟩))) w') : wpList P ops Q (o :: rest) a w := by
  refine wpList_plain hgd fun K hK => ?_
  have hrun : (Instr.box T (a.eval x)).run P w = .ok (.pointer (some ⟨w.heap.size, 0, none⟩)) (w.alloc (.cells cs T)) := by
    simp [Instr.box, newVar, newRow, hx]
  unfold Oper.wp execOp
  simp only [ho, Sem.run_bind, hrun, Result.andThen_ok]
  exact hK _ _ (h _ (At.new w T cs) ((Below.refl _ _).alloc (Nat.le_refl _) _) (by simp))
/-- An empty slice of the call's own ('[]byte{}'). -/
theorem wpl_empty (hgd : o.guard = none) (S e : TypeId) (ho : o.op = .buildSlice S 0 #[]) (k : IntKind) (hrun : ∀ w : World, (Instr.buildSlice S 0 #[]).run P w = .ok (.slice (some ⟨w.heap.size, 0, none⟩) 0 0) (w.alloc (.cells #[] e)))
    (h : ∀ w', Row k e w.heap.size w' (.slice (some ⟨w.heap.size, 0, none⟩) 0 0) [] → Below w.heap.size w w' → w'.heap.size = w.heap.size + 1 → wpList P ops Q rest (a.put o.dst (.slice (some ⟨w.heap.size, 0, none⟩) 0 0)) w') : wpList P ops Q (o :: rest) a w := by
  refine wpList_plain hgd fun K hK => ?_
  unfold Oper.wp execOp
  have hp : (#[] : Array (Nat × Operand)).map (fun (i, x) => (i, a.eval x)) = #[] := by simp
  simp only [ho, hp, Sem.run_bind, hrun w, Result.andThen_ok]
  exact hK _ _ (h _ (Row.alloc_nil k e w (Nat.le_refl _)) ((Below.refl _ _).alloc (Nat.le_refl _) _) (by simp))
/-- A struct out of the middle of a row. -/
theorem wpl_loadE (hgd : o.guard = none) (T : TypeId) (x : Operand) (ho : o.op = .load T x) (b off : Nat) (hx : a.eval x = .pointer (some ⟨b, off, none⟩)) (cs : Array Value) (d : TypeDesc) (hc : w.rangeAt b off cs.toList)
    (hu : P.underlying T = some d) (hd : d.isRow = true) (hi : (P.info? T).map (·.size) = some cs.size)
    (h : wpList P ops Q rest (a.put o.dst (.agg cs)) w) : wpList P ops Q (o :: rest) a w := by
  refine wpList_load_mid hgd T x ho b off hx cs.toList d hc hu hd (by simpa using hi) ?_
  simpa using h
/-- A struct out of a block that is known whole. -/
theorem wpl_loadAt (hgd : o.guard = none) (T : TypeId) (x : Operand) (ho : o.op = .load T x) (g : Nat) (T' : TypeId) (cs : Array Value) (hat : At w g T' cs) (d : TypeDesc)
    (hu : P.underlying T = some d) (hd : d.isRow = true) (hi : (P.info? T).map (·.size) = some cs.size) (hx : a.eval x = .pointer (some ⟨g, 0, none⟩))
    (h : wpList P ops Q rest (a.put o.dst (.agg cs)) w) : wpList P ops Q (o :: rest) a w :=
  wpl_loadE hgd T x ho g 0 hx cs d (fun j v hv => by rw [Nat.zero_add, hat.cell j]; simpa using hv) hu hd hi h
/-- A store into a row of numbers of the call's own. -/
theorem wpl_storeB (hgd : o.guard = none) (ty : TypeId) (x y : Operand) (ho : o.op = .store ty x y) (hd : o.dst = none) (k : IntKind) (B e g n c j : Nat) (xs : List Int) (z : Int)
    (hx : a.eval x = .pointer (some ⟨g, j, none⟩)) (hy : a.eval y = .int k z) (hrow : Row k e B w (.slice (some ⟨g, 0, none⟩) n c) xs) (hn : n = xs.length) (hj : j < xs.length) (hi : (P.info? ty).map (·.size) = some 1)
    (h : ∀ w', Row k e B w' (.slice (some ⟨g, 0, none⟩) n c) (xs.set j z) → w.grownBy w' (some g) → wpList P ops Q rest a w') : wpList P ops Q (o :: rest) a w := by
  subst hn
  refine wpList_plain hgd fun K hK => ?_
  obtain ⟨hc, hf⟩ := hrow.cell j hj
  have hrun : (storeVar ty ⟨g, j, none⟩ (.int k z)).run P w = .ok () (w.setCell ⟨g, j, none⟩ (.int k z)) := by
    cases hq : P.info? ty with
    | none => simp [hq] at hi
    | some i =>
      have hs : i.size = 1 := by simpa [hq] using hi
      have ha : (⟨g, j, none⟩ : Addr).add 0 = ⟨g, j, none⟩ := by unfold Addr.add; split <;> simp_all
      have h1 : (Value.int k z).oneCell' = true := rfl
      simp [storeVar, sizeOf, typeInfo, hq, cells_one h1, hs, storeCells, ha, run_store P w _ _ _ h1, hc, hf]
  unfold Oper.wp execOp
  simp only [ho, hx, hy, Instr.storeAt, Instr.sureAddr, Sem.run_bind, Sem.run_pure, Result.andThen_ok, hrun]
  refine hK _ _ ?_
  rw [hd]
  exact h _ (by have := hrow.store j z; simpa using this) (grown_setCell (grown_refl w _))
end
/-- What reads as cells from a place on stays where memory below a bound does. -/
theorem range_below {w w' : World} {B b off : Nat} {cs : List Value} (h : w.rangeAt b off cs) (hb : Below B w w') (hlt : b < B) : w'.rangeAt b off cs := fun j v hv => by
  have := h j v hv
  rwa [← hb.cell (p := ⟨b, off + j, none⟩) hlt] at this
theorem range_at {w : World} {g : Nat} {T : TypeId} {cs : Array Value} (h : At w g T cs) : w.rangeAt g 0 cs.toList := fun j v hv => by
  rw [Nat.zero_add, h.cell j]
  simpa using hv
/-- The same load in a region that only reads. -/
theorem wpStill_loadE {P : Program} {w : World} {ops : Array Oper} {rest : List Oper} {o : Oper} {a : Act} {Q : Act → Prop} (hgd : o.guard = none) (T : TypeId) (x : Operand) (ho : o.op = .load T x) (b off : Nat) (cs : Array Value) (d : TypeDesc) (hc : w.rangeAt b off cs.toList)
    (hu : P.underlying T = some d) (hd : d.isRow = true) (hi : (P.info? T).map (·.size) = some cs.size) (hx : a.eval x = .pointer (some ⟨b, off, none⟩))
    (h : wpStill P ops w Q rest (a.put o.dst (.agg cs))) : wpStill P ops w Q (o :: rest) a := by
  refine wpStill_step fun K hK => ?_
  simp only [Region.wanted, hgd, if_true]
  unfold Oper.still execOp
  have hr := run_loadVar_mid w b off T cs.toList d hc hu hd (by simpa using hi)
  simp only [ho, hx, Instr.loadAt, Instr.sureAddr, Sem.run_bind, Sem.run_pure, Result.andThen_ok, hr, Oper.stillUpon_value]
  refine hK _ ?_
  simpa using h
end Go.Proofs.Yteiiifonejkjbaa.Ops
/-
  LAWS AT Oper.wp (for drawn regions whose operations are shown once each). No program is looked into here.
-/
namespace Go.Proofs.Yteiiifonejkjbaa.Mem
open Go.RowKit
set_option linter.unusedVariables false
section
variable {P : Program} {w : World} {o : Oper} {a : Act} {K : Act → World → Prop} {Q : Exit → Act → World → Prop}
theorem wp_appendO (s x : Operand) (t : TypeId) (ho : o.op = .call { callee := .builtin .append, args := #[s, x], argTypes := #[t, t] })
    (k : IntKind) (B e bytes : Nat) (i : TypeInfo) (z : Value) (ht : P.underlying t = some (.slice e)) (hi : P.info? e = some i) (hz : i.zero = some z) (hsize : i.size = 1) (hby : i.bytes = bytes) (hzs : z.cells.size = 1)
    (v u : Value) (xs ys : List Int) (hs : a.eval s = v) (hx : a.eval x = u) (hown : Row k e B w v xs) (hr : Reads k w u ys) (hne : 0 < ys.length)
    (h63 : xs.length + ys.length ≤ maxLen) (hbytes : (xs.length + ys.length) * bytes ≤ 140737488355328) (hbase : B ≤ w.heap.size)
    (h : ∀ v' w', Row k e B w' v' (xs ++ ys) → w.grownBy w' v.ownBlock → K (a.put o.dst v') w') : o.wp P a w K Q := by
  obtain ⟨p, c, rfl, h1, h2, h3, h4⟩ := hr
  obtain ⟨b, off, hp, _, hc⟩ := h4 hne
  subst hp
  have hnews : ∀ j q, (ys.map (Value.int k))[j]? = some q → w.cell? ((⟨b, off, none⟩ : Addr).add j) = some q := by
    intro j q hj
    have hjl : j < ys.length := by
      rcases Nat.lt_or_ge j ys.length with h | h
      · exact h
      · simp [List.getElem?_eq_none (show (ys.map (Value.int k)).length ≤ j by simpa using h)] at hj
    rw [add_none, hc j hjl]
    simp [List.getElem?_eq_getElem hjl] at hj
    subst hj
    simp [List.getD, List.getElem?_eq_getElem hjl]
  have h1c : ∀ q ∈ ys.map (Value.int k), q.oneCell' = true := by
    intro q hq
    obtain ⟨_, _, rfl⟩ := List.mem_map.1 hq
    rfl
  obtain ⟨v', w', hr, k2, k3, k4⟩ := run_append_own (P := P) w B t o.type e i z 1 bytes ht hi hz hsize hby hzs (by omega) v xs.length _ hown ⟨b, off, none⟩ ys.length c (ys.map (Value.int k)) (by simp) hnews h1c h63 hbytes hbase
  unfold Oper.wp execOp
  simp only [ho, resolve, invoke, builtin, Sem.run_bind, Sem.run_pure, Result.andThen_ok, List.map_toArray, List.map_cons, List.map_nil, hs, hx, hr]
  exact h v' w' (by simpa [Row] using k2) k3
theorem wp_build (S n : Nat) (x : Operand) (ho : o.op = .buildSlice S n #[(0, x)]) (v r : Value) (w' : World) (hx : a.eval x = v) (hrun : (Instr.buildSlice S n #[(0, v)]).run P w = .ok r w') (h : K (a.put o.dst r) w') : o.wp P a w K Q := by
  have hp : (#[(0, x)] : Array (Nat × Operand)).map (fun (i, x) => (i, a.eval x)) = #[(0, v)] := by simp [hx]
  unfold Oper.wp execOp
  simp only [ho, hp, Sem.run_bind, hrun, Result.andThen_ok]
  exact h
theorem wp_loadV (T : TypeId) (x : Operand) (ho : o.op = .load T x) (v r : Value) (hx : a.eval x = v) (hrun : (Instr.loadAt T v).run P w = .ok r w) (h : K (a.put o.dst r) w) : o.wp P a w K Q := by
  unfold Oper.wp execOp
  simp only [ho, hx, Sem.run_bind, hrun, Result.andThen_ok]
  exact h
theorem wp_val (r : Value) (w' : World) (hrun : (execOp a.eval o).run P w = .ok (.value r) w') (h : K (a.put o.dst r) w') : o.wp P a w K Q := by
  unfold Oper.wp
  rw [hrun]
  exact h
theorem wp_callF (f : Nat) (xs : Array Operand) (ts : Array TypeId) (ho : o.op = .call { callee := .value (.func f), args := xs, argTypes := ts }) (vs : Array Value) (hrun : (execOp a.eval o).run P w = .ok (.enter f vs) w) (h : Calls P f vs w fun e w' => ∃ v, e = .returned v ∧ K (a.put o.dst v) w') : o.wp P a w K Q := by
  unfold Oper.wp
  rw [hrun]
  simp only [Oper.upon]
  exact Calls.mono h (fun e w'' ⟨v, he, hk⟩ => by subst he; exact hk)
end
end Go.Proofs.Yteiiifonejkjbaa.Mem
/-
  STILL REGIONS THAT HOLD A STRUCT'S LOAD, AND THE STORE OF THE SAME STRUCT BACK INTO ITS OWN CELL: such a store turns nothing. No program is looked into here.
-/
namespace Go.Proofs.Yteiiifonejkjbaa.Cells
open Go.RowKit
set_option linter.unusedVariables false
theorem setRow_same {u : World} {g : Nat} {ty : TypeId} {cs : Array Value} (h : At u g ty cs) : u.setRow g cs = u := by
  have hh : u.heap[g]? = some (.cells cs ty (0, 0)) := h
  have e1 := setRow_heap u g cs cs ty (0, 0) hh
  have : (u.setRow g cs).heap = u.heap := by
    apply Array.ext_getElem?
    intro i
    by_cases hi : i = g
    · subst hi; rw [e1, hh]
    · exact setRow_other _ _ _ _ hi
  have e : u.setRow g cs = { u with heap := (u.setRow g cs).heap } := rfl
  rw [e, this]
section
variable {P : Program} {ops : Array Oper} {rest : List Oper} {o : Oper} {a : Act} {w : World} {Q : Act → Prop}
theorem wpStill_load_row (hgd : o.guard = none) (ty : TypeId) (x : Operand) (ho : o.op = .load ty x)
    (g : Nat) (hx : a.eval x = .pointer (some ⟨g, 0, none⟩)) (t : TypeId) (cs : Array Value) (fr : Nat × Nat) (d : TypeDesc) (hg : w.heap[g]? = some (.cells cs t fr))
    (hu : P.underlying ty = some d) (hd : (match d with | .struct _ | .array _ _ => true | _ => false) = true) (hi : (P.info? ty).map (·.size) = some cs.size)
    (h : wpStill P ops w Q rest (a.put o.dst (.agg cs))) : wpStill P ops w Q (o :: rest) a := by
  refine wpStill_step fun K hK => ?_
  simp only [Region.wanted, hgd, if_true]
  unfold Oper.still execOp
  simp only [ho, hx, Instr.loadAt, Instr.sureAddr, Sem.run_bind, Sem.run_pure, Result.andThen_ok, run_loadVar_row w g t ty cs fr d hg hu hd hi, Oper.stillUpon_value]
  exact hK _ h
theorem wpStill_store_row (hgd : o.guard = none) (ty : TypeId) (x y : Operand) (ho : o.op = .store ty x y)
    (g : Nat) (cells : Array Value) (hx : a.eval x = .pointer (some ⟨g, 0, none⟩)) (hy : a.eval y = .agg cells)
    (t : TypeId) (hg : At w g t cells) (hi : (P.info? ty).map (·.size) = some cells.size) (h1 : cells.all (·.oneCell') = true)
    (h : wpStill P ops w Q rest (a.put o.dst undef)) : wpStill P ops w Q (o :: rest) a := by
  refine wpStill_step fun K hK => ?_
  simp only [Region.wanted, hgd, if_true]
  unfold Oper.still execOp
  simp only [ho, hx, hy, Instr.storeAt, Instr.sureAddr, Sem.run_bind, Sem.run_pure, Result.andThen_ok, run_storeVar_row w g t ty cells cells hg hi rfl h1, setRow_same hg, Oper.stillUpon_skip]
  exact hK _ h
end
end Go.Proofs.Yteiiifonejkjbaa.Cells
/-
  LAWS FOR THE OPERATIONS OF A DRAWN REGION (Mono), each in one line; printed by genreg.py. No program is looked into here.
-/
namespace Go.Proofs.Yteiiifonejkjbaa.Mono
open Go.RowKit Mem
set_option linter.unusedVariables false

theorem dep_at {ds : List (Option Nat)} {Rs : List Prp} {a : Act} {w : World} : ∀ {es : List Edge} {i d : Nat} {R : Prp}, DepFacts ds Rs a w es → (es.any fun e => e.on == i && Region.binds .any e) = true → ds[i]? = some (some d) → Rs[i]? = some R → R.R (a.eval (.tmp d)) w
  | [], _, _, _, _, h, _, _ => by cases h
  | e :: es, i, d, R, hd, h, h1, h2 => by
    rw [List.any_cons, Bool.or_eq_true] at h
    rcases h with h | h
    · rw [Bool.and_eq_true, beq_iff_eq] at h
      obtain ⟨rfl, hb⟩ := h
      have := hd.1 hb
      rw [h1, h2] at this
      exact this
    · exact dep_at hd.2 h h1 h2
theorem want_at {ds : List (Option Nat)} {o : Oper} {a : Act} {g d : Nat} {b c : Bool} (ho : o.guard = some (g, b)) (hd : ds[g]? = some (some d)) (he : a.eval (.tmp d) = .bool c) (hc : (c == b) = true) : want ds o a = true := by
  unfold want
  rw [ho]
  simp only [hd, he]
  exact hc
theorem want_no {ds : List (Option Nat)} {o : Oper} {a : Act} {g d : Nat} {b c : Bool} (ho : o.guard = some (g, b)) (hd : ds[g]? = some (some d)) (he : a.eval (.tmp d) = .bool c) (hc : (c == b) = false) : want ds o a = false := by
  unfold want
  rw [ho]
  simp only [hd, he]
  exact hc
theorem if_want {c : Bool} {A B : Prop} (h : c = true) (ha : A) : if c = true then A else B := by rw [if_pos h]; exact ha
theorem if_no {c : Bool} {A B : Prop} (h : c = false) (hb : B) : if c = true then A else B := by rw [if_neg (by rw [h]; decide)]; exact hb

section
variable {P : Program} {w : World} {o : Oper} {a : Act} {R : Prp} {Q : Exit → Act → World → Prop}
/-- What is asked of an operation. -/
abbrev Post (o : Oper) (a : Act) (w : World) (R : Prp) : Act → World → Prop := fun a' w' => ∃ v, a' = a.put o.dst v ∧ Below w.heap.size w w' ∧ R.R v w'
theorem ok_move (x : Operand) (ho : o.op = .move x) (h : R.R (a.eval x) w) : o.wp P a w (Post o a w R) Q := by
  unfold Oper.wp execOp
  simp only [ho, Sem.run_pure]
  exact ⟨_, rfl, Below.refl _ _, h⟩
theorem ok_assign (x : Operand) (ho : o.op = .assign x) (h : R.R (a.eval x) w) : o.wp P a w (Post o a w R) Q := by
  unfold Oper.wp execOp
  simp only [ho, Sem.run_pure]
  exact ⟨_, rfl, Below.refl _ _, h⟩
theorem ok_val (r : Value) (hrun : (execOp a.eval o).run P w = .ok (.value r) w) (h : R.R r w) : o.wp P a w (Post o a w R) Q := by
  unfold Oper.wp
  rw [hrun]
  exact ⟨_, rfl, Below.refl _ _, h⟩
theorem ok_valW (r : Value) (w' : World) (hrun : (execOp a.eval o).run P w = .ok (.value r) w') (hb : Below w.heap.size w w') (h : R.R r w') : o.wp P a w (Post o a w R) Q := by
  unfold Oper.wp
  rw [hrun]
  exact ⟨_, rfl, hb, h⟩
theorem ok_conv (src dst : TypeId) (x : Operand) (ho : o.op = .convert src dst x) (r : Value) (hrun : (convert src dst (a.eval x)).run P w = .ok r w) (h : R.R r w) : o.wp P a w (Post o a w R) Q := by
  unfold Oper.wp execOp
  simp only [ho, Sem.run_bind, hrun, Result.andThen_ok]
  exact ⟨_, rfl, Below.refl _ _, h⟩
theorem ok_load (T : TypeId) (x : Operand) (ho : o.op = .load T x) (v r : Value) (hx : a.eval x = v) (hrun : (Instr.loadAt T v).run P w = .ok r w) (h : R.R r w) : o.wp P a w (Post o a w R) Q := by
  unfold Oper.wp execOp
  simp only [ho, hx, Sem.run_bind, hrun, Result.andThen_ok]
  exact ⟨_, rfl, Below.refl _ _, h⟩
theorem ok_call (f : Nat) (xs : Array Operand) (ts : Array TypeId) (ho : o.op = .call { callee := .value (.func f), args := xs, argTypes := ts }) (vs : Array Value) (hrun : (execOp a.eval o).run P w = .ok (.enter f vs) w)
    (h : Calls P f vs w fun e w' => ∃ v, e = .returned v ∧ Below w.heap.size w w' ∧ R.R v w') : o.wp P a w (Post o a w R) Q := by
  unfold Oper.wp
  rw [hrun]
  simp only [Oper.upon]
  exact Calls.mono h (fun e w'' ⟨v, he, hk⟩ => by subst he; exact ⟨v, rfl, hk⟩)
theorem ok_sub_h (t : TypeId) (x hi : Operand) (ho : o.op = .slice t x none (some hi) none) (k : IntKind) (i : TypeInfo)
    (ht : P.underlying t = some (.slice (P.elem t))) (hii : P.info? (P.elem t) = some i) (hsize : i.size = 1)
    (v : Value) (xs ys : List Int) (h : Int) (hx : a.eval x = v) (hh : a.eval hi = .int .i64 h) (hr : Reads k w v xs) (h0 : 0 ≤ h) (h1 : h ≤ xs.length) (he : xs.take h.toNat = ys)
    (hR : ∀ v', Reads k w v' ys → R.R v' w) : o.wp P a w (Post o a w R) Q := by
  subst he
  have hr' := hr
  obtain ⟨p, c, rfl, k1, k2, k3, k4⟩ := hr
  have hs : (sizeOf (P.elem t)).run P w = .ok 1 w := by simp [sizeOf, typeInfo, hii, hsize]
  unfold Oper.wp execOp
  simp only [ho, hx, hh, Option.map_some, Option.map_none, run_sliceAt_slice w t _ _ _ _ ht, run_slice_h w t p xs.length c ht .i64 h h0 (by omega), hs, Sem.run_bind, Sem.run_pure, Result.andThen_ok]
  have := hr'.sliced 0 h.toNat (by omega) (by omega)
  exact ⟨_, rfl, Below.refl _ _, hR _ (by simpa using this)⟩
theorem ok_sub_l (t : TypeId) (x lo : Operand) (ho : o.op = .slice t x (some lo) none none) (k : IntKind) (i : TypeInfo)
    (ht : P.underlying t = some (.slice (P.elem t))) (hii : P.info? (P.elem t) = some i) (hsize : i.size = 1)
    (v : Value) (xs ys : List Int) (l : Int) (hx : a.eval x = v) (hl : a.eval lo = .int .i64 l) (hr : Reads k w v xs) (h0 : 0 ≤ l) (h1 : l ≤ xs.length) (he : xs.drop l.toNat = ys)
    (hR : ∀ v', Reads k w v' ys → R.R v' w) : o.wp P a w (Post o a w R) Q := by
  subst he
  have hr' := hr
  obtain ⟨p, c, rfl, k1, k2, k3, k4⟩ := hr
  have hs : (sizeOf (P.elem t)).run P w = .ok 1 w := by simp [sizeOf, typeInfo, hii, hsize]
  unfold Oper.wp execOp
  simp only [ho, hx, hl, Option.map_some, Option.map_none, run_sliceAt_slice w t _ _ _ _ ht, run_slice_l w t p xs.length c ht .i64 l h0 h1, hs, Sem.run_bind, Sem.run_pure, Result.andThen_ok]
  have := hr'.sliced l.toNat xs.length (by omega) (by omega)
  rw [List.take_of_length_le (by simp)] at this
  exact ⟨_, rfl, Below.refl _ _, hR _ this⟩
theorem ok_sub (t : TypeId) (x lo hi : Operand) (ho : o.op = .slice t x (some lo) (some hi) none) (k : IntKind) (i : TypeInfo)
    (ht : P.underlying t = some (.slice (P.elem t))) (hii : P.info? (P.elem t) = some i) (hsize : i.size = 1)
    (v : Value) (xs ys : List Int) (l h : Int) (hx : a.eval x = v) (hl : a.eval lo = .int .i64 l) (hh : a.eval hi = .int .i64 h) (hr : Reads k w v xs) (h0 : 0 ≤ l) (h1 : l ≤ h) (h2 : h ≤ xs.length) (he : (xs.drop l.toNat).take (h - l).toNat = ys)
    (hR : ∀ v', Reads k w v' ys → R.R v' w) : o.wp P a w (Post o a w R) Q := by
  subst he
  have hr' := hr
  obtain ⟨p, c, rfl, k1, k2, k3, k4⟩ := hr
  have hs : (sizeOf (P.elem t)).run P w = .ok 1 w := by simp [sizeOf, typeInfo, hii, hsize]
  unfold Oper.wp execOp
  simp only [ho, hx, hl, hh, Option.map_some, Option.map_none, run_sliceAt_slice w t _ _ _ _ ht, run_slice_lh w t p xs.length c ht .i64 .i64 l h h0 h1 (by omega), hs, Sem.run_bind, Sem.run_pure, Result.andThen_ok]
  have := hr'.sliced l.toNat h.toNat (by omega) (by omega)
  rw [show h.toNat - l.toNat = (h - l).toNat by omega] at this
  exact ⟨_, rfl, Below.refl _ _, hR _ this⟩
theorem ok_build (T : TypeId) (parts : Array (Nat × Operand)) (ho : o.op = .build T parts) (vs : Array (Nat × Value)) (hx : parts.map (fun (i, x) => (i, a.eval x)) = vs) (r : Value) (hrun : (Instr.build T vs).run P w = .ok r w) (h : R.R r w) : o.wp P a w (Post o a w R) Q := by
  unfold Oper.wp execOp
  simp only [ho, hx, Sem.run_bind, hrun, Result.andThen_ok]
  exact ⟨_, rfl, Below.refl _ _, h⟩
theorem ok_alloc (T : TypeId) (ho : o.op = .alloc T) (cs : Array Value) (hz : ((P.info? T).bind (·.zero)).map (·.cells) = some cs) (h : ∀ w', Cells.At w' w.heap.size T cs → R.R (.pointer (some ⟨w.heap.size, 0, none⟩)) w') : o.wp P a w (Post o a w R) Q := by
  cases hi : P.info? T with
  | none => simp [hi] at hz
  | some i =>
    cases hzz : i.zero with
    | none => simp [hi, hzz] at hz
    | some z =>
      have hc : z.cells = cs := by simpa [hi, hzz] using hz
      have hrun : (Instr.alloc T true (.tuple #[])).run P w = .ok (.pointer (some ⟨w.heap.size, 0, none⟩)) (w.alloc (.cells cs T)) := by
        simp [Instr.alloc, zeroValue, typeInfo, hi, hzz, newVar, newRow, hc]
      unfold Oper.wp execOp
      simp only [ho, Sem.run_bind, hrun, Result.andThen_ok]
      exact ⟨_, rfl, (Below.refl _ _).alloc (Nat.le_refl _) _, h _ (Cells.At.new w T cs)⟩
theorem ok_loadAt (T : TypeId) (x : Operand) (ho : o.op = .load T x) (g : Nat) (T' : TypeId) (cs : Array Value) (hat : Cells.At w g T' cs) (d : TypeDesc)
    (hu : P.underlying T = some d) (hd : d.isRow = true) (hi : (P.info? T).map (·.size) = some cs.size) (hx : a.eval x = .pointer (some ⟨g, 0, none⟩)) (h : R.R (.agg cs) w) : o.wp P a w (Post o a w R) Q := by
  have hr := run_loadVar_mid w g 0 T cs.toList d (Ops.range_at hat) hu hd (by simpa using hi)
  unfold Oper.wp execOp
  simp only [ho, hx, Instr.loadAt, Instr.sureAddr, Sem.run_bind, Sem.run_pure, Result.andThen_ok, hr]
  exact ⟨_, rfl, Below.refl _ _, by simpa using h⟩
theorem ok_loadE (T : TypeId) (x : Operand) (ho : o.op = .load T x) (b off : Nat) (cs : Array Value) (d : TypeDesc) (hc : w.rangeAt b off cs.toList)
    (hu : P.underlying T = some d) (hd : d.isRow = true) (hi : (P.info? T).map (·.size) = some cs.size) (hx : a.eval x = .pointer (some ⟨b, off, none⟩)) (h : R.R (.agg cs) w) : o.wp P a w (Post o a w R) Q := by
  have hr := run_loadVar_mid w b off T cs.toList d hc hu hd (by simpa using hi)
  unfold Oper.wp execOp
  simp only [ho, hx, Instr.loadAt, Instr.sureAddr, Sem.run_bind, Sem.run_pure, Result.andThen_ok, hr]
  exact ⟨_, rfl, Below.refl _ _, by simpa using h⟩
end
end Go.Proofs.Yteiiifonejkjbaa.Mono
/-
  OPENING WHAT CAME IN: structs by value, their cells, each of its own kind; slices of whatever elements. No program is looked into here.
-/
namespace Go.Proofs.Yteiiifonejkjbaa.Open
open Go.WideShapes Go.RowKit
section
variable {P : Program} {W : World} {r : Reach} {base : Nat} {t : TypeId} {v : Value}

theorem agg_cells {fs : Array Field} {ts : List TypeId} (ht : P.underlying t = some (.struct fs)) (hts : P.cellTypes P.depth t = some ts) (h : Value.okWide P W r base t v) :
    ∃ cs, v = .agg cs ∧ cs.size = P.cellsOf t ∧ ∀ i c, cs[i]? = some c → ∃ u, ts[i % ts.length]? = some u ∧ Cell.okWide P W r base u c := by
  simp only [Value.okWide, ht] at h
  obtain ⟨cs, h1, h2, ts', h3, _, h5⟩ := h
  rw [hts] at h3
  cases h3
  exact ⟨cs, h1, h2, h5⟩
theorem cell_int {u : TypeId} {k : IntKind} {c : Value} (hu : P.underlying u = some (.int k)) (h : Cell.okWide P W r base u c) : ∃ n, c = .int k n ∧ k.min ≤ n ∧ n ≤ k.max := by
  simp only [Cell.okWide, hu] at h
  cases c <;> simp_all [Cell.ok, IntKind.has]
theorem cell_bool {u : TypeId} {c : Value} (hu : P.underlying u = some .bool) (h : Cell.okWide P W r base u c) : ∃ b, c = .bool b := by
  simp only [Cell.okWide, hu] at h
  cases c <;> simp_all [Cell.ok]
theorem cell_slice {u e : TypeId} {c : Value} (hu : P.underlying u = some (.slice e)) (h : Cell.okWide P W r base u c) : ∃ a l k, c = .slice a l k := by
  simp only [Cell.okWide, hu] at h
  cases c <;> simp_all [Cell.ok]
end

section
variable {H : Type} {enc : TypeId × Value → H} {P : Program} {W : World} {fuel : Nat} {t e : TypeId} {cs : List Value} {x : DataW H × List MemPlace} {k : Nat}
/-- A SLICE THAT CAME IN, WHATEVER ITS ELEMENTS: each element's cells, and that they read as data. -/
theorem slice (ht : P.underlying t = some (.slice e)) (hk : P.cellsOf e = k) (hk0 : 0 < k) (h : DataW.trod enc P W 0 (fun _ => true) true fuel t cs = some x) :
    ∃ (a : Option Addr) (len cap : Nat), cs = [.slice a len cap] ∧ len ≤ cap ∧ cap ≤ maxLen ∧ (a = none → cap = 0) ∧ (0 < len → ∃ b off, a = some ⟨b, off, none⟩ ∧ b < W.heap.size) ∧
      ∀ b off, a = some ⟨b, off, none⟩ → ∀ i, i < len → ∃ cs' n x', cs'.length = k ∧ (∀ j, j < k → W.cell? ⟨b, off + i * k + j, none⟩ = cs'[j]?) ∧ DataW.trod enc P W 0 (fun _ => true) true n e cs' = some x' := by
  rcases Deep.open_slice ht h with ⟨rfl, rfl⟩ | ⟨a, len, cap, m, n, D, Pl, rfl, _, hl, hm, hmm, rfl, hx⟩
  · exact ⟨none, 0, 0, rfl, Nat.le_refl _, Nat.zero_le _, fun _ => rfl, fun h => absurd h (Nat.lt_irrefl _), fun _ _ h => by cases h⟩
  · simp only [if_true] at hmm
    subst hmm
    have key : ∀ i, i < len → ∃ cs', cs'.length = k ∧ (∀ j, j < k → W.cell? ((a.add (i * k)).add j) = cs'[j]?) ∧ ∃ n x', DataW.trod enc P W 0 (fun _ => true) true n e cs' = some x' := by
      intro i hi
      obtain ⟨cs', h1, h2⟩ := hx i (by omega)
      rw [hk] at h1
      obtain ⟨_, h3, h4⟩ := World.cells?_some h1
      exact ⟨cs', h3, h4, _, _, h2⟩
    have add_none : ∀ (b o j : Nat), (⟨b, o, none⟩ : Addr).add j = ⟨b, o + j, none⟩ := by intro b o j; unfold Addr.add; split <;> simp_all
    refine ⟨some a, len, m, rfl, hl, hm, (fun h => by cases h), fun h0 => ?_, fun b off hab i hi => ?_⟩
    · obtain ⟨cs', h1, h2, _⟩ := key 0 h0
      have h3 := h2 0 hk0
      rw [List.getElem?_eq_getElem (by omega)] at h3
      obtain ⟨b, off, s⟩ := a
      have hs : s = none := by
        have := World.cell?_spot h3
        unfold Addr.add at this
        cases s with
        | none => rfl
        | some s => simp at this
      subst hs
      refine ⟨b, off, rfl, ?_⟩
      rw [add_none, add_none] at h3
      by_cases hb : b < W.heap.size
      · exact hb
      · exfalso
        have : W.heap[b]? = none := by simp; omega
        simp [World.cell?, this] at h3
    · cases hab
      obtain ⟨cs', h1, h2, n, x', h3⟩ := key i hi
      refine ⟨cs', n, x', h1, fun j hj => ?_, h3⟩
      have := h2 j hj
      rwa [add_none, add_none] at this
end
end Go.Proofs.Yteiiifonejkjbaa.Open
/-
  OPENING WHAT CAME IN, WITH THE FORM'S REACH: what a datum weighs, part by part; a slice of bytes, a struct's fields, the elements of a slice. No program is looked into here.
-/
namespace Go.Proofs.Yteiiifonejkjbaa.Open
open Go.ChangeShapes Go.WideShapes Go.RowKit Mem
set_option linter.unusedVariables false

section
variable {H : Type} {P : Program}
/-- What a datum weighs is within the form's reach. -/
def Sz (P : Program) (t : TypeId) (d : DataW H) : Prop := (d.weights P t).all (· ≤ reachBytes) = true
theorem sz_each : ∀ {ts : List TypeId} {ds : List (DataW H)}, (DataW.weightsEach P ts ds).all (· ≤ reachBytes) = true → ∀ {j : Nat} {t : TypeId} {d : DataW H}, ts[j]? = some t → ds[j]? = some d → Sz P t d
  | [], _, _, j, t, d, ht, _ => by simp at ht
  | _ :: _, [], _, j, t, d, _, hd => by simp at hd
  | t' :: ts, d' :: ds, h, j, t, d, ht, hd => by
    unfold DataW.weightsEach at h
    rw [List.all_append, Bool.and_eq_true] at h
    cases j with
    | zero =>
      simp at ht hd
      subst ht; subst hd
      exact h.1
    | succ j => exact sz_each h.2 (by simpa using ht) (by simpa using hd)
theorem sz_all {e : TypeId} : ∀ {ds : List (DataW H)}, (DataW.weightsAll P e ds).all (· ≤ reachBytes) = true → ∀ d ∈ ds, Sz P e d
  | [], _, d, hd => by cases hd
  | d' :: ds, h, d, hd => by
    unfold DataW.weightsAll at h
    rw [List.all_append, Bool.and_eq_true] at h
    rcases List.mem_cons.1 hd with rfl | hd
    · exact h.1
    · exact sz_all h.2 d hd
theorem sz_slice {t e : TypeId} {es sp : List (DataW H)} (h : Sz P t (.slice es sp)) (hu : P.underlying t = some (.slice e)) : (es.length + sp.length) * P.bytesOf e ≤ reachBytes ∧ ∀ d ∈ es, Sz P e d := by
  unfold Sz DataW.weights at h
  rw [hu] at h
  simp only [List.all_cons, List.all_append, Bool.and_eq_true, decide_eq_true_eq] at h
  exact ⟨h.1, sz_all h.2.1⟩
theorem sz_agg {t : TypeId} {fs : Array Field} {ps : List (DataW H)} (h : Sz P t (.agg ps)) (hu : P.underlying t = some (.struct fs)) {j : Nat} {f : Field} {d : DataW H} (hf : fs[j]? = some f) (hd : ps[j]? = some d) : Sz P f.type d := by
  unfold Sz DataW.weights at h
  rw [hu] at h
  exact sz_each h (j := j) (by simp [hf]) hd
end

section
variable {H : Type} {enc : TypeId × Value → H} {P : Program} {W : World} {fuel : Nat} {t e : TypeId} {cs : List Value} {x : DataW H × List MemPlace}
/-- A slice of integers. -/
theorem ints {k : IntKind} (ht : P.underlying t = some (.slice e)) (he : P.underlying e = some (.int k)) (hc : P.cellsOf e = 1) (h : DataW.trod enc P W 0 (fun _ => true) true fuel t cs = some x) :
    ∃ p c xs, cs = [.slice p xs.length c] ∧ Reads k W (.slice p xs.length c) xs ∧ (∀ n ∈ xs, (Lit.int k n).wf = true) ∧ (Sz P t x.1 → xs.length * P.bytesOf e ≤ reachBytes) := by
  rcases Go.ChangeShapes.open_ints ht he hc h with ⟨rfl, rfl⟩ | ⟨a, len, cap, zs, rfl, _, hl, hm, hz, rfl, hcell, hwz⟩
  · exact ⟨none, 0, [], rfl, Reads.sub0, (fun n hn => by cases hn), fun _ => by simp⟩
  · simp only [if_true] at hz
    have hlen : (zs.take len).length = len := by rw [List.length_take]; omega
    refine ⟨some a, cap, zs.take len, by rw [hlen], ?_, fun n hn => hwz n (List.mem_of_mem_take hn), fun hs => ?_⟩
    · refine ⟨some a, cap, rfl, by rw [hlen]; exact hl, hm, (fun h => by cases h), fun h0 => ?_⟩
      rw [hlen] at h0 ⊢
      obtain ⟨b, off, s⟩ := a
      have h1 := hcell 0 (by omega)
      have hs : s = none := by
        have := World.cell?_spot h1
        unfold Addr.add at this
        cases s with
        | none => rfl
        | some s => simp at this
      subst hs
      rw [add_none] at h1
      refine ⟨b, off, rfl, ?_, fun i hi => ?_⟩
      · by_cases hb : b < W.heap.size
        · exact hb
        · exfalso
          have : W.heap[b]? = none := by simp; omega
          simp [World.cell?, this] at h1
      · have := hcell i (by omega)
        rw [add_none] at this
        rw [this]
        simp [List.getD, hi]
    · have := (sz_slice hs ht).1
      simp only [lits, List.length_map, List.length_take, List.length_drop] at this
      rw [hlen]
      refine Nat.le_trans (Nat.mul_le_mul_right _ ?_) this
      omega
/-- A struct's field. -/
theorem field {fs : Array Field} (ht : P.underlying t = some (.struct fs)) (h : DataW.trod enc P W 0 (fun _ => true) true fuel t cs = some x) :
    cs.length = P.cellsOf t ∧ ∀ (j : Nat) (f : Field), fs[j]? = some f → ∃ n y, DataW.trod enc P W 0 (fun _ => true) true n f.type ((cs.drop f.offset).take (P.cellsOf f.type)) = some y ∧ (Sz P t x.1 → Sz P f.type y.1) := by
  obtain ⟨xs, n, _, hx, hl, hlen, hf⟩ := DataW.trod_struct ht h
  refine ⟨hl, fun j f hj => ?_⟩
  have hjl : j < fs.size := (Array.getElem?_eq_some_iff.1 hj).1
  have hy : xs[j]? = some (xs[j]'(by omega)) := List.getElem?_eq_getElem (by omega)
  refine ⟨n, xs[j]'(by omega), (hf j f hj).trans hy, fun hs => ?_⟩
  rw [hx] at hs
  exact sz_agg hs ht hj (by simp [hy])
/-- The elements of a slice. -/
theorem elems {k : Nat} (ht : P.underlying t = some (.slice e)) (hk : P.cellsOf e = k) (hk0 : 0 < k) (h : DataW.trod enc P W 0 (fun _ => true) true fuel t cs = some x) :
    ∃ (a : Option Addr) (len cap : Nat), cs = [.slice a len cap] ∧ len ≤ cap ∧ cap ≤ maxLen ∧ (a = none → cap = 0) ∧ (0 < len → ∃ b off, a = some ⟨b, off, none⟩ ∧ b < W.heap.size) ∧ (Sz P t x.1 → len * P.bytesOf e ≤ reachBytes) ∧
      ∀ b off, a = some ⟨b, off, none⟩ → ∀ i, i < len → ∃ cs' n y, cs'.length = k ∧ (∀ j, j < k → W.cell? ⟨b, off + i * k + j, none⟩ = cs'[j]?) ∧ DataW.trod enc P W 0 (fun _ => true) true n e cs' = some y ∧ (Sz P t x.1 → Sz P e y.1) := by
  rcases Deep.open_slice ht h with ⟨rfl, rfl⟩ | ⟨a, len, cap, m, n, D, Pl, rfl, _, hl, hm, hmm, rfl, hx⟩
  · exact ⟨none, 0, 0, rfl, Nat.le_refl _, Nat.zero_le _, fun _ => rfl, fun h => absurd h (Nat.lt_irrefl _), fun _ => by simp, fun _ _ h => by cases h⟩
  · simp only [if_true] at hmm
    subst hmm
    have key : ∀ i, i < len → ∃ cs', cs'.length = k ∧ (∀ j, j < k → W.cell? ((a.add (i * k)).add j) = cs'[j]?) ∧ DataW.trod enc P W 0 (fun _ => true) true n e cs' = some (D i, Pl i) := by
      intro i hi
      obtain ⟨cs', h1, h2⟩ := hx i (by omega)
      rw [hk] at h1
      obtain ⟨_, h3, h4⟩ := World.cells?_some h1
      exact ⟨cs', h3, h4, h2⟩
    refine ⟨some a, len, m, rfl, hl, hm, (fun h => by cases h), fun h0 => ?_, fun hs => ?_, fun b off hab i hi => ?_⟩
    · obtain ⟨cs', h1, h2, _⟩ := key 0 h0
      have h3 := h2 0 hk0
      rw [List.getElem?_eq_getElem (by omega)] at h3
      obtain ⟨b, off, s⟩ := a
      have hs : s = none := by
        have := World.cell?_spot h3
        unfold Addr.add at this
        cases s with
        | none => rfl
        | some s => simp at this
      subst hs
      refine ⟨b, off, rfl, ?_⟩
      rw [add_none, add_none] at h3
      by_cases hb : b < W.heap.size
      · exact hb
      · exfalso
        have : W.heap[b]? = none := by simp; omega
        simp [World.cell?, this] at h3
    · have := (sz_slice hs ht).1
      simp only [List.length_map, List.length_range] at this
      exact Nat.le_trans (Nat.mul_le_mul_right _ (by omega)) this
    · cases hab
      obtain ⟨cs', h1, h2, h3⟩ := key i hi
      refine ⟨cs', n, _, h1, fun j hj => ?_, h3, fun hs => ?_⟩
      · have := h2 j hj
        rwa [add_none, add_none] at this
      · exact (sz_slice hs ht).2 _ (List.mem_map.2 ⟨i, List.mem_range.2 hi, rfl⟩)
end
end Go.Proofs.Yteiiifonejkjbaa.Open
