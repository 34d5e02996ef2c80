/-
  ROWS OF NUMBERS IN MEMORY: what a slice of integers reads as (Reads), what a slice of the call's own holds (Row); append onto such a row, make, conversion to a text. No program is looked into here.
-/
import Derived.Test.YtjfponhdlfhmbaaFrame
import Derived.Laws.AppendOwnNone
import Derived.Lib.AppendZerosOnto
import Derived.WalkLawsBesides
import Derived.WalkSpells
namespace Go.Proofs.Ytjfponhdlfhmbaa.Mem
open Go.RowKit
set_option linter.unusedVariables false

/-- The slice v reads as the numbers xs, in the world w. -/
def Reads (k : IntKind) (w : World) (v : Value) (xs : List Int) : Prop :=
  ∃ p c, v = .slice p xs.length c ∧ xs.length ≤ c ∧ c ≤ maxLen ∧ (p = none → c = 0) ∧
    (0 < xs.length → ∃ b off, p = some ⟨b, off, none⟩ ∧ b < w.heap.size ∧ ∀ i, i < xs.length → w.cell? ⟨b, off + i, none⟩ = some (.int k (xs.getD i 0)))

/-- The slice v is the call's own (its block's number is B or greater) and holds the numbers xs. -/
abbrev Row (k : IntKind) (e : TypeId) (B : Nat) (w : World) (v : Value) (xs : List Int) : Prop := w.ownsRow B e 1 v xs.length (xs.map (Value.int k))

theorem isRow_reads {k : IntKind} {w : World} {a : Option Addr} {len cap : Nat} {zs : List Int} (h : Frame.IsRow k w a len cap zs) :
    Reads k w (.slice a len cap) (zs.take len) ∧ (zs.take len).length = len ∧ ∀ n ∈ zs.take len, (Lit.int k n).wf = true := by
  rcases h with ⟨rfl, rfl, rfl, rfl⟩ | ⟨b, off, s, rfl, h1, h2, h3, h4, h5, h6⟩
  · exact ⟨⟨none, 0, rfl, by simp, by simp, fun _ => rfl, fun h => by simp at h⟩, rfl, fun n h => by cases h⟩
  · have hl : (zs.take len).length = len := by rw [List.length_take]; omega
    refine ⟨⟨some ⟨b, off, s⟩, cap, by rw [hl], by rw [hl]; exact h1, h2, (fun h => by cases h), fun h => ?_⟩, hl, fun n hn => h6 n (List.mem_of_mem_take hn)⟩
    rw [hl] at h ⊢
    obtain ⟨rfl, hb⟩ := h4 (by omega)
    refine ⟨b, off, rfl, hb, fun i hi => ?_⟩
    rw [h5 i (by omega)]
    simp [List.getD, hi]

theorem Reads.below {k : IntKind} {w w' : World} {v : Value} {xs : List Int} (h : Reads k w v xs) (hb : Below w.heap.size w w') : Reads k w' v xs := by
  obtain ⟨p, c, rfl, h1, h2, h3, h4⟩ := h
  refine ⟨p, c, rfl, h1, h2, h3, fun h0 => ?_⟩
  obtain ⟨b, off, rfl, hlt, hc⟩ := h4 h0
  exact ⟨b, off, rfl, Nat.lt_of_lt_of_le hlt hb.size, fun i hi => (hb.cell (p := ⟨b, off + i, none⟩) hlt).trans (hc i hi)⟩

theorem add_none (b o j : Nat) : (⟨b, o, none⟩ : Addr).add j = ⟨b, o + j, none⟩ := by unfold Addr.add; split <;> simp_all

theorem Row.reads {k : IntKind} {e B : Nat} {w : World} {v : Value} {xs : List Int} (h : Row k e B w v xs) : Reads k w v xs := by
  have hcells := fun g hg => h.cells (g := g) hg
  have hlt := h.lt
  obtain ⟨h0, ⟨rfl, hn⟩ | ⟨g, cap, cur, rfl, hb, hg, hle, hm, _⟩⟩ := h
  · exact ⟨none, 0, by rw [hn], by omega, by simp, fun _ => rfl, fun h => by omega⟩
  · refine ⟨_, cap, rfl, hle, hm, (fun h => by cases h), fun hp => ⟨g, 0, rfl, (hlt g rfl).2, fun i hi => ?_⟩⟩
    have := hcells g rfl i (.int k (xs.getD i 0)) (by simp [List.getD, List.getElem?_eq_getElem hi])
    rwa [add_none] at this

theorem Row.below {k : IntKind} {e B : Nat} {w w' : World} {v : Value} {xs : List Int} (h : Row k e B w v xs) (hb : Below w.heap.size w w') : Row k e B w' v xs := by
  refine ⟨h.1, ?_⟩
  rcases h.2 with hn | ⟨g, cap, cur, rfl, hbb, hgg, rest⟩
  · exact .inl hn
  · refine .inr ⟨g, cap, cur, rfl, hbb, ?_, rest⟩
    rw [hb.block g (Array.getElem?_eq_some_iff.1 hgg).1]
    exact hgg

theorem Row.mono {k : IntKind} {e B B' : Nat} {w : World} {v : Value} {xs : List Int} (h : Row k e B w v xs) (hB : B' ≤ B) : Row k e B' w v xs := by
  refine ⟨h.1, ?_⟩
  rcases h.2 with hn | ⟨g, cap, cur, rfl, hbb, rest⟩
  · exact .inl hn
  · exact .inr ⟨g, cap, cur, rfl, by omega, rest⟩

theorem Row.form {k : IntKind} {e B : Nat} {w : World} {p : Option Addr} {n c : Nat} {xs : List Int} (h : Row k e B w (.slice p n c) xs) (h0 : 0 < xs.length) : ∃ g, p = some ⟨g, 0, none⟩ ∧ n = xs.length ∧ B ≤ g ∧ g < w.heap.size := by
  have hlt := h.lt
  rcases h.2 with ⟨_, hn⟩ | ⟨g, cap, cur, hv, hb, _⟩
  · omega
  · cases hv
    exact ⟨g, rfl, rfl, hb, (hlt g rfl).2⟩
/-- A cell of such a row, and that it may be written. -/
theorem Row.cell {k : IntKind} {e B g c : Nat} {w : World} {xs : List Int} (h : Row k e B w (.slice (some ⟨g, 0, none⟩) xs.length c) xs) (j : Nat) (hj : j < xs.length) :
    w.cell? ⟨g, j, none⟩ = some (.int k (xs.getD j 0)) ∧ w.frozen? ⟨g, j, none⟩ = false := by
  refine ⟨?_, World.ownsRow.frozenAt h j⟩
  rw [World.ownsRow.cellAt h j (by omega)]
  simp [List.getD, hj]
/-- A store into such a row. -/
theorem Row.store {k : IntKind} {e B g c : Nat} {w : World} {xs : List Int} (h : Row k e B w (.slice (some ⟨g, 0, none⟩) xs.length c) xs) (j : Nat) (x : Int) :
    Row k e B (w.setCell ⟨g, j, none⟩ (.int k x)) (.slice (some ⟨g, 0, none⟩) xs.length c) (xs.set j x) := by
  have := (World.ownsRow.stored h j (.int k x)).1
  simpa [Row, List.map_set] using this
/-- Another row stays behind such a store. -/
theorem Row.store_other {k k' : IntKind} {e B e' B' g c : Nat} {w : World} {v : Value} {xs ys : List Int} (h : Row k e B w (.slice (some ⟨g, 0, none⟩) xs.length c) xs) (h' : Row k' e' B' w v ys) (hne : v.ownBlock ≠ some g) (j : Nat) (x : Int) :
    Row k' e' B' (w.setCell ⟨g, j, none⟩ (.int k x)) v ys :=
  World.ownsRow.kept h' (World.ownsRow.stored h j (.int k x)).2 (.inr hne)

/-- A new block of one number. -/
theorem Reads.one (k : IntKind) (w : World) (x : Int) (t : TypeId) : Reads k (w.alloc (.cells #[.int k x] t)) (.slice (some ⟨w.heap.size, 0, none⟩) 1 1) [x] := by
  refine ⟨_, 1, rfl, by simp, by simp [maxLen], (fun h => by cases h), fun _ => ⟨w.heap.size, 0, rfl, by simp, fun i hi => ?_⟩⟩
  have : i = 0 := by simp at hi; exact hi
  subst this
  simp

/-- A piece of what reads as numbers. -/
theorem Reads.sub {k : IntKind} {w : World} {p : Option Addr} {n c : Nat} {xs : List Int} (hr : Reads k w (.slice p n c) xs) (i j : Nat) (h : i + j ≤ xs.length) :
    Reads k w (.slice (Option.map (fun x => x.add i) p) j (c - i)) ((xs.drop i).take j) := by
  obtain ⟨p', c', e, h1, h2, h3, h4⟩ := hr
  cases e
  have hl : ((xs.drop i).take j).length = j := by simp; omega
  refine ⟨_, c - i, by rw [hl], by rw [hl]; omega, by omega, fun hp => ?_, fun h0 => ?_⟩
  · have : p = none := by cases p <;> simp_all
    have := h3 this
    omega
  · rw [hl] at h0 ⊢
    obtain ⟨b, off, rfl, hb, hc⟩ := h4 (by omega)
    refine ⟨b, off + i, by simp [add_none], hb, fun q hq => ?_⟩
    have := hc (i + q) (by omega)
    rw [Nat.add_assoc, this]
    simp [List.getD, hq]
theorem Reads.pre {k : IntKind} {w : World} {p : Option Addr} {n c : Nat} {xs : List Int} (hr : Reads k w (.slice p n c) xs) (i : Nat) (h : i ≤ xs.length) : Reads k w (.slice p i c) (xs.take i) := by
  obtain ⟨p', c', e, h1, h2, h3, h4⟩ := hr
  cases e
  have hl : (xs.take i).length = i := by simp; omega
  refine ⟨p, c, by rw [hl], by rw [hl]; omega, h2, h3, fun h0 => ?_⟩
  rw [hl] at h0 ⊢
  obtain ⟨b, off, rfl, hb, hc⟩ := h4 (by omega)
  exact ⟨b, off, rfl, hb, fun q hq => by rw [hc q (by omega)]; simp [List.getD, hq]⟩
theorem Reads.sub0 {k : IntKind} {w : World} {p : Option Addr} : Reads k w (.slice p 0 0) [] := ⟨p, 0, rfl, by simp, by simp, fun _ => rfl, fun h => by simp at h⟩

/-- A new block that is laid with numbers reads as them. -/
theorem Reads.alloc (k : IntKind) (w : World) (xs : List Int) (t : TypeId) (fr : Nat × Nat) (c : Nat) (h : xs.length ≤ c) (h' : c ≤ maxLen) : Reads k (w.alloc (.cells (xs.map (Value.int k)).toArray t fr)) (.slice (some ⟨w.heap.size, 0, none⟩) xs.length c) xs := by
  refine ⟨_, _, rfl, h, h', (fun h => by cases h), fun _ => ⟨_, _, rfl, by simp, fun i hi => ?_⟩⟩
  rw [cell_of_row (w.alloc _) w.heap.size (0 + i) (xs.map (Value.int k)).toArray t fr Array.getElem?_push_size]
  simp [hi]
/-- An empty slice in a new block. -/
theorem Row.alloc_nil (k : IntKind) (e : TypeId) (w : World) {B : Nat} (h : B ≤ w.heap.size) : Row k e B (w.alloc (.cells #[] e)) (.slice (some ⟨w.heap.size, 0, none⟩) 0 0) [] :=
  ⟨rfl, .inr ⟨w.heap.size, 0, #[], rfl, h, Array.getElem?_push_size, Nat.le_refl _, by decide, rfl, rfl⟩⟩

/-- A guarded operation that is wanted is walked as one without a guard. -/
theorem wpl_wanted {P : Program} {w : World} {ops : Array Oper} {rest : List Oper} {o : Oper} {a : Act} {Q : Exit → Act → World → Prop} (hw : Region.wanted o (yielded ops a.tmps) = true)
    (h : wpList P ops Q ({ o with guard := none } :: rest) a w) : wpList P ops Q (o :: rest) a w := by
  unfold wpList at h ⊢
  rw [if_pos hw]
  rw [if_pos (by simp [Region.wanted])] at h
  exact h

section
variable {P : Program} {w : World} {ops : Array Oper} {rest : List Oper} {o : Oper} {a : Act} {Q : Exit → Act → World → Prop}

/-- append(v, u...), v of the call's own, u whatever reads as numbers. -/
theorem wpl_append (hgd : o.guard = none) (s x : Operand) (t : TypeId) (ho : o.op = .call { callee := .builtin .append, args := #[s, x], argTypes := #[t, t] })
    (k : IntKind) (B e bytes : Nat) (i : TypeInfo) (z : Value) (ht : P.underlying t = some (.slice e)) (hi : P.info? e = some i) (hz : i.zero = some z) (hsize : i.size = 1) (hby : i.bytes = bytes) (hzs : z.cells.size = 1)
    (v u : Value) (xs ys : List Int) (hs : a.eval s = v) (hx : a.eval x = u) (hown : Row k e B w v xs) (hr : Reads k w u ys)
    (h63 : xs.length + ys.length ≤ maxLen) (hbytes : (xs.length + ys.length) * bytes ≤ 140737488355328) (hbase : B ≤ w.heap.size)
    (h : ∀ v' w', Row k e B w' v' (xs ++ ys) → w.grownBy w' v.ownBlock → wpList P ops Q rest (a.put o.dst v') w') : wpList P ops Q (o :: rest) a w := by
  obtain ⟨p, c, rfl, h1, h2, h3, h4⟩ := hr
  cases p with
  | none =>
    obtain rfl := h3 rfl
    have hy : ys = [] := List.eq_nil_of_length_eq_zero (by omega)
    subst hy
    exact wpList_append_own_none hgd s x t ho B e i 1 ht hi v xs.length _ hs hown hx (h v w (by rw [List.append_nil]; exact hown) ⟨rfl, rfl, rfl, Nat.le_refl _, fun _ _ _ => rfl⟩)
  | some ad =>
    refine wpList_append_own w hgd s x t ho B e i z 1 bytes ht hi hz hsize hby hzs (by omega) v xs.length _ hs hown ad ys.length c (ys.map (Value.int k)) hx (by simp) ?_ ?_ h63 hbytes hbase ?_
    · intro j q hj
      have hjl : j < ys.length := by
        rcases Nat.lt_or_ge j ys.length with h | h
        · exact h
        · simp [List.getElem?_eq_none (show (ys.map (Value.int k)).length ≤ j by simpa using h)] at hj
      obtain ⟨b, off, hp, _, hc⟩ := h4 (by omega)
      cases hp
      rw [add_none, hc j hjl]
      simp [List.getElem?_eq_getElem hjl] at hj
      subst hj
      simp [List.getD, List.getElem?_eq_getElem hjl]
    · intro q hq
      obtain ⟨_, _, rfl⟩ := List.mem_map.1 hq
      rfl
    · intro v' w' h5 h6 _
      exact h v' w' (by simpa [Row] using h5) h6

/-- string(v), v whatever reads as bytes. -/
theorem run_string (src dst e : TypeId) (hs : P.underlying src = some (.slice e)) (he : P.underlying e = some (.int .u8)) (hd : P.underlying dst = some .string) {v : Value} {xs : List Int} (hr : Reads .u8 w v xs) :
    (convert src dst v).run P w = .ok (.string (strOfNums xs)) w := by
  obtain ⟨p, c, rfl, h1, h2, h3, h4⟩ := hr
  cases p with
  | none =>
    obtain rfl := h3 rfl
    have hy : xs = [] := List.eq_nil_of_length_eq_zero (by omega)
    subst hy
    rw [run_convert_bytes_nil w src e hs he _ _ dst hd]
    rfl
  | some ad =>
    rcases Nat.eq_zero_or_pos xs.length with h0 | h0
    · have hy : xs = [] := List.eq_nil_of_length_eq_zero h0
      subst hy
      rw [run_convert_bytes_string w src dst e _ _ _ hs he hd]
      simp [Conv.bytesToString, loadCells, loadCellsFrom]
      rfl
    · obtain ⟨b, off, hp, _, hc⟩ := h4 h0
      cases hp
      exact run_convert_bytes_arg w src e hs he b off _ c xs rfl hc dst hd
end
end Go.Proofs.Ytjfponhdlfhmbaa.Mem
