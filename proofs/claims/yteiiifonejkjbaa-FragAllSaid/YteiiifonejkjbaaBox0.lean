/-
  Maps whose elements are whatever values (MV: told by a function from keys to values); keys of both maps of a box. No walk.
-/
import Derived.Test.YteiiifonejkjbaaRcut0
import Derived.Test.YteiiifonejkjbaaOpenF
import Derived.Maps.OwnSet
import Derived.Maps.OwnOps
import Derived.DeepKeys4
import Derived.Deep.DeepMust
namespace Go.Proofs.Yteiiifonejkjbaa.Bx
open Go.RowKit Mem Cells Ops Pcs Go.Maps Go.Proofs.Yteiiifonejkjbaa.Open
set_option linter.unusedVariables false
set_option linter.unusedSimpArgs false

/-- An element of a map is read as itself. -/
def RV (v : Value) : Option (DataW Value × List MemPlace) := some (.held v, [])
open Classical in
noncomputable def updM (m : Lit → Option Value) (k : Lit) (v : Option Value) : Lit → Option Value := fun x => if x = k then v else m x
theorem updM_same (m : Lit → Option Value) (k : Lit) (v : Option Value) : updM m k v k = v := by simp [updM]
theorem updM_other (m : Lit → Option Value) {k x : Lit} (v : Option Value) (h : x ≠ k) : updM m k v x = m x := by simp [updM, h]
/-- Block b is a map with keys of type k that says m, of c entries. -/
def MV (w : World) (k : TypeId) (b : Nat) (m : Lit → Option Value) (c : Nat) : Prop :=
  ∃ D : DataW Value, w.ownsMap Try.prog k RV b c D ∧ Tidy D ∧ size D = c ∧ ∀ kl, WideAt.IsKeyLit kl → has D kl = (m kl).isSome ∧ ∀ z, D.atKey kl z = match m kl with | some v => .held v | none => z
section
variable {w w' : World} {k : TypeId} {b c : Nat} {m : Lit → Option Value}
theorem MV.made (w : World) (k : TypeId) : MV (w.alloc (.map #[] 0)) k w.heap.size (fun _ => none) 0 :=
  ⟨_, World.ownsMap_made w Try.prog k RV, tidy_empty, rfl, fun kl _ => ⟨rfl, fun z => rfl⟩⟩
theorem MV.lt (h : MV w k b m c) : b < w.heap.size := by obtain ⟨D, h, _⟩ := h; exact h.lt
theorem MV.kept {row : Option Nat} (h : MV w k b m c) (hg : w.grownBy w' row) (hne : some b ≠ row) : MV w' k b m c := by
  obtain ⟨D, h1, h2⟩ := h
  exact ⟨D, h1.kept hg hne, h2⟩
theorem MV.below (h : MV w k b m c) (hb : Below w.heap.size w w') : MV w' k b m c := h.kept (grown_below none hb) (by simp)
theorem MV.alloc (h : MV w k b m c) (o : Obj) : MV (w.alloc o) k b m c := h.kept (World.grownBy_alloc w o none) (by simp)
theorem MV.ne_at (h : MV w k b m c) {g T : Nat} {cs : Array Value} (hat : At w g T cs) : b ≠ g := by
  rintro rfl
  obtain ⟨D, ⟨es, clock, hb, _⟩, _⟩ := h
  have h2 : w.heap[b]? = some (.cells cs T (0, 0)) := hat
  rw [hb] at h2
  cases h2
theorem MV.but {X : Nat → Prop} (h : MV w k b m c) (hb : ButX X w w') (hx : ¬ X b) : MV w' k b m c := by
  obtain ⟨D, ⟨es, clock, h1, h2⟩, r⟩ := h
  exact ⟨D, ⟨es, clock, by rw [hb.block b (Array.getElem?_eq_some_iff.1 h1).1 hx]; exact h1, h2⟩, r⟩
theorem MV.look_ok (h : MV w k b m c) {t e : TypeId} (K : Keyed Try.prog k) (ht : Try.prog.underlying t = some (.map k e)) {z : Value} (hz : (zeroValue e).run Try.prog w = .ok z w) {key : Value} {kl : Lit} (hkey : keyOf Try.prog k key = some kl) :
    (Instr.lookup t (.map (some b)) key true).run Try.prog w = .ok (.tuple #[(m kl).getD z, .bool (m kl).isSome]) w := by
  obtain ⟨D, h1, h2, h3, h4⟩ := h
  obtain ⟨v, ps, hrun, hv⟩ := h1.look_ok K ht hz (zd := .held z) (zp := []) rfl hkey
  obtain ⟨e1, e2⟩ := h4 kl (K.key hkey)
  rw [e1] at hrun
  rw [e2] at hv
  have : v = (m kl).getD z := by
    unfold RV at hv
    cases hm : m kl with
    | none => rw [hm] at hv; simp at hv; simpa using hv.1
    | some x => rw [hm] at hv; simp at hv; simpa using hv.1
  rw [← this]
  exact hrun
theorem MV.look (h : MV w k b m c) {t e : TypeId} (K : Keyed Try.prog k) (ht : Try.prog.underlying t = some (.map k e)) {z : Value} (hz : (zeroValue e).run Try.prog w = .ok z w) {key : Value} {kl : Lit} (hkey : keyOf Try.prog k key = some kl) :
    (Instr.lookup t (.map (some b)) key false).run Try.prog w = .ok ((m kl).getD z) w := by
  obtain ⟨D, h1, h2, h3, h4⟩ := h
  obtain ⟨v, ps, hrun, hv⟩ := h1.lookup K ht hz (zd := .held z) (zp := []) rfl hkey
  obtain ⟨e1, e2⟩ := h4 kl (K.key hkey)
  rw [e2] at hv
  have : v = (m kl).getD z := by
    unfold RV at hv
    cases hm : m kl with
    | none => rw [hm] at hv; simp at hv; simpa using hv.1
    | some x => rw [hm] at hv; simp at hv; simpa using hv.1
  rw [← this]
  exact hrun
theorem MV.len (h : MV w k b m c) {t e : TypeId} (ht : Try.prog.underlying t = some (.map k e)) (ty : TypeId) : (Builtin.len_ #[t] ty #[.map (some b)]).run Try.prog w = .ok (.int .i64 c) w := by
  obtain ⟨D, h1, h2, h3, h4⟩ := h
  have := h1.len ht ty
  rw [h3] at this
  exact this
theorem MV.update (h : MV w k b m c) {t e : TypeId} (K : Keyed Try.prog k) (ht : Try.prog.underlying t = some (.map k e)) (hn : c < maxLen) {key : Value} (val : Value) {kl : Lit} (hkey : keyOf Try.prog k key = some kl) (hnew : m kl = none) :
    ∃ w', (Instr.mapUpdate t (.map (some b)) key val).run Try.prog w = .ok () w' ∧ MV w' k b (updM m kl (some val)) (c + 1) ∧ w.grownBy w' (some b) := by
  obtain ⟨D, h1, h2, h3, h4⟩ := h
  have hk := K.key hkey
  obtain ⟨w', hrun, r1, r2⟩ := h1.update K ht hn (d := .held val) (ps := []) hkey rfl
  have hh : has D kl = false := by rw [(h4 kl hk).1, hnew]; rfl
  refine ⟨w', hrun, ⟨_, r1, h2.put hk _, by rw [size_put h2, hh, h3]; rfl, fun x hx => ?_⟩, r2⟩
  by_cases e : x = kl
  · subst e
    rw [updM_same]
    exact ⟨has_put_same h2.isMap hx _, fun z => atKey_put_same h2.isMap hx _ _⟩
  · rw [updM_other _ _ e]
    refine ⟨(has_put_other e _).trans (h4 x hx).1, fun z => ?_⟩
    rw [atKey_put_other e]
    exact (h4 x hx).2 z
theorem MV.drop (h : MV w k b m c) {t e : TypeId} (K : Keyed Try.prog k) (ht : Try.prog.underlying t = some (.map k e)) {key : Value} {kl : Lit} (hkey : keyOf Try.prog k key = some kl) (ty : TypeId) (hold : (m kl).isSome = true) :
    ∃ w', (Builtin.delete_ #[t, k] ty #[.map (some b), key]).run Try.prog w = .ok (.tuple #[]) w' ∧ MV w' k b (updM m kl none) (c - 1) ∧ w.grownBy w' (some b) := by
  obtain ⟨D, h1, h2, h3, h4⟩ := h
  have hk := K.key hkey
  obtain ⟨w', hrun, r1, r2⟩ := h1.drop K ht hkey ty
  have hh : has D kl = true := by rw [(h4 kl hk).1, hold]
  have hsz : size (D.del kl) = c - 1 := by
    have := size_del (k := kl) h2
    rw [hh, if_pos rfl] at this
    omega
  refine ⟨w', hrun, ⟨_, ?_, h2.del _, hsz, fun x hx => ?_⟩, r2.grown⟩
  · obtain ⟨es, clock, q1, q2, q3, q4⟩ := r1
    refine ⟨es, clock, q1, q2, ?_, q4⟩
    rw [← hsz, q4]
    simp [Maps.size, length_sorted]
  by_cases e : x = kl
  · subst e
    rw [updM_same]
    exact ⟨has_del_same, fun z => atKey_del_same _⟩
  · rw [updM_other _ _ e]
    refine ⟨(has_del_other e).trans (h4 x hx).1, fun z => ?_⟩
    rw [atKey_del_other e]
    exact (h4 x hx).2 z
end

/-! Keys. -/
def keyI (t : Int) : Lit := .int .u32 t
theorem keyed43 : Keyed Try.prog 43 := int_keyed Try.underlying43
def isU32 (t : Int) : Prop := 0 ≤ t ∧ t ≤ 4294967295
def isU16 (t : Int) : Prop := 0 ≤ t ∧ t ≤ 65535
theorem keyOf43 (t : Int) (h : isU32 t) : keyOf Try.prog 43 (.int .u32 t) = some (keyI t) := keyOf_int_mk Try.underlying43 (by obtain ⟨h1, h2⟩ := h; simp [Lit.wf, IntKind.min, IntKind.max, IntKind.signed, IntKind.bits]; omega)
theorem keyI_inj {t u : Int} (h : keyI t = keyI u) : t = u := by simpa [keyI] using h
def keyT (s q : Int) : Lit := .string (keyBytes [.int .u16 s, .int .u16 q])
theorem laid : laidOutB Try.prog = true := by kernel_rfl
theorem keyed80 : Keyed Try.prog 80 := Keyed.of_law (deep_law_laid laid (m := Try.prog.types.size + 1) (of_decide_eq_true (by kernel_rfl)) (of_decide_eq_true (by kernel_rfl)) (by kernel_rfl) (by rw [Try.underlying80]))
theorem cells80 : Try.prog.cellsOf 80 = 2 := by kernel_rfl
theorem cells26 : Try.prog.cellsOf 26 = 1 := by kernel_rfl
theorem lits26 (d : Nat) (n : Int) (h : (Lit.int .u16 n).wf = true) : Try.prog.keyLits (d + 1) 26 [.int .u16 n] = some [.int .u16 n] := by
  unfold Program.keyLits
  simp only [Try.underlying26, h]
  rfl
theorem lits80 (d : Nat) (c v : Int) (w1 : (Lit.int .u16 c).wf = true) (w2 : (Lit.int .u16 v).wf = true) : Try.prog.keyLits (d + 1 + 1) 80 [.int .u16 c, .int .u16 v] = some [.int .u16 c, .int .u16 v] := by
  unfold Program.keyLits
  simp only [Try.underlying80, cells80]
  simp [cells26, lits26 d c w1, lits26 d v w2]
theorem key_lits (c v : Int) (w1 : (Lit.int .u16 c).wf = true) (w2 : (Lit.int .u16 v).wf = true) : Try.prog.keyLits (Try.prog.types.size + 1) 80 [.int .u16 c, .int .u16 v] = some [.int .u16 c, .int .u16 v] := by
  obtain ⟨d, hd⟩ : ∃ d, Try.prog.types.size = d + 1 := ⟨Try.prog.types.size - 1, by have : 1 ≤ Try.prog.types.size := of_decide_eq_true (by kernel_rfl); omega⟩
  rw [hd]
  exact lits80 d c v w1 w2
set_option maxRecDepth 20000 in
theorem keyOf80 (c v : Int) (hc : isU16 c) (hv : isU16 v) : keyOf Try.prog 80 (.agg #[.int .u16 c, .int .u16 v]) = some (keyT c v) := by
  have w1 : (Lit.int .u16 c).wf = true := by obtain ⟨h1, h2⟩ := hc; simp [Lit.wf, IntKind.min, IntKind.max, IntKind.signed, IntKind.bits]; omega
  have w2 : (Lit.int .u16 v).wf = true := by obtain ⟨h1, h2⟩ := hv; simp [Lit.wf, IntKind.min, IntKind.max, IntKind.signed, IntKind.bits]; omega
  have hk : Try.prog.keyType 80 = true := by kernel_rfl
  have hf : Value.formed Try.prog 80 (.agg #[.int .u16 c, .int .u16 v]) = true := by simp [Value.formed, Try.underlying80, cells80]
  unfold keyOf
  simp only [Try.underlying80, hk, hf, Bool.and_self, if_true, Value.cells]
  rw [key_lits c v w1 w2]
  rfl
theorem keyT_inj {s q s' q' : Int} (h1 : isU16 s) (h2 : isU16 q) (h3 : isU16 s') (h4 : isU16 q') (h : keyT s q = keyT s' q') : s = s' ∧ q = q' := by
  have e1 := keyOf80 s q h1 h2
  have e2 := keyOf80 s' q' h3 h4
  rw [← h] at e2
  have := keyed80.inj e1 e2
  simpa using this
theorem zero45 (w : World) : (zeroValue 45).run Try.prog w = .ok (.agg #[.int .u32 0, .int .u16 0, .int .u16 0, .bool false, .bool false, .bool false, .slice none 0 0]) w := by kernel_rfl
theorem zero32 (w : World) : (zeroValue 32).run Try.prog w = .ok (.agg #[.int .u16 0, .slice none 0 0]) w := by kernel_rfl

/-! The box. -/
/-- A message that waits. -/
structure T where
  s : Int
  q : Int
  data : List Int
deriving DecidableEq
def getH (h : List A) (t : Int) : Option A := h.find? fun a => a.tsn == t
def getW (l : List T) (s q : Int) : Option T := l.find? fun x => x.s == s && x.q == q
/-- A box's contents. -/
structure S where
  held : List A
  wait : List T
  next : Nat → Int
def S.ok (x : S) : Prop := (x.held.length ≤ 512 ∧ (x.held.map (·.tsn)).Nodup ∧ ∀ a ∈ x.held, a.ok ∧ 0 < a.data.length ∧ a.data.length ≤ 256 ∧ a.stream < 8) ∧
  ((x.wait.map fun y => (y.s, y.q)).Nodup ∧ ∀ y ∈ x.wait, isU16 y.s ∧ isU16 y.q ∧ bytesOk y.data ∧ 0 < y.data.length ∧ y.data.length ≤ 140000) ∧ ∀ i, isU16 (x.next i)
def nxL (nx : Nat → Int) : List Value := [.int .u16 (nx 0), .int .u16 (nx 1), .int .u16 (nx 2), .int .u16 (nx 3), .int .u16 (nx 4), .int .u16 (nx 5), .int .u16 (nx 6), .int .u16 (nx 7)]
/-- The box's own cells. -/
def boxA (b1 b2 : Nat) (nx : Nat → Int) : Array Value := #[.map (some b1), .map (some b2), .int .u16 (nx 0), .int .u16 (nx 1), .int .u16 (nx 2), .int .u16 (nx 3), .int .u16 (nx 4), .int .u16 (nx 5), .int .u16 (nx 6), .int .u16 (nx 7)]
/-- What the map of pieces says; vs: the slices of their bytes. -/
def HM (h : List A) (vs : Int → Value) (m : Lit → Option Value) : Prop := ∀ t, isU32 t → m (keyI t) = (getH h t).map fun a => .agg (row a (vs t)).toArray
def WM (l : List T) (vw : Int → Int → Value) (m : Lit → Option Value) : Prop := ∀ s q, isU16 s → isU16 q → m (keyT s q) = (getW l s q).map fun x => .agg #[.int .u16 s, vw s q]
/-- The box S holds x. -/
structure Has (Z : Nat) (w : World) (g b1 b2 : Nat) (x : S) (vs : Int → Value) (vw : Int → Int → Value) (m1 m2 : Lit → Option Value) : Prop where
  row : At w g 75 (boxA b1 b2 x.next)
  map1 : MV w 43 b1 m1 x.held.length
  map2 : MV w 80 b2 m2 x.wait.length
  ne : b1 ≠ b2
  says1 : HM x.held vs m1
  says2 : WM x.wait vw m2
  rows1 : ∀ a ∈ x.held, Row .u8 5 Z w (vs a.tsn) a.data
  rows2 : ∀ y ∈ x.wait, Row .u8 5 Z w (vw y.s y.q) y.data
  ok : x.ok
def Box (Z : Nat) (w : World) (g b1 b2 : Nat) (x : S) : Prop := ∃ vs vw m1 m2, Has Z w g b1 b2 x vs vw m1 m2
/-- The blocks of a box. -/
def BX (g b1 b2 : Nat) (k : Nat) : Prop := k = g ∨ k = b1 ∨ k = b2
end Go.Proofs.Yteiiifonejkjbaa.Bx
