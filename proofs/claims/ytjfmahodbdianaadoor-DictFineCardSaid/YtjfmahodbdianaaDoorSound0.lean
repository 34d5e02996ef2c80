/-
  Rules: their cells; which may be (plain); a map of names that were seen. No walk.
-/
import Derived.Test.YtjfmahodbdianaaDoorTpls
import Derived.Maps.OwnSet
import Derived.Maps.OwnOps
import Derived.DeepKeys4
import Derived.Deep.DeepMust
import Derived.Lib.Hide
namespace Go.Proofs.YtjfmahodbdianaaDoor.Rule
open Go.RowKit Mem Cells Ops Go.Maps
set_option linter.unusedVariables false
set_option linter.unusedSimpArgs false

structure R where
  code : Int
  vendor : Int
  type : Int
  must : Bool
  least : Int
  most : Int
deriving DecidableEq
def i64 (n : Int) : Prop := -9223372036854775808 ≤ n ∧ n ≤ 9223372036854775807
def R.ok (r : R) : Prop := (0 ≤ r.code ∧ r.code ≤ 4294967295) ∧ (0 ≤ r.vendor ∧ r.vendor ≤ 4294967295) ∧ i64 r.type ∧ i64 r.least ∧ i64 r.most
def rowR (r : R) : Array Value := #[.int .u32 r.code, .int .u32 r.vendor, .int .i64 r.type, .bool r.must, .int .i64 r.least, .int .i64 r.most]
/-- The slice v reads as these rules. -/
def ReadsR (w : World) (v : Value) (rs : List R) : Prop :=
  ∃ p c, v = .slice p rs.length c ∧ rs.length ≤ c ∧ c ≤ maxLen ∧ (p = none → c = 0) ∧ (0 < rs.length → ∃ b off, p = some ⟨b, off, none⟩ ∧ b < w.heap.size ∧ ∀ (i : Nat) (r : R), rs[i]? = some r → w.rangeAt b (off + i * 6) (rowR r).toList)
theorem ReadsR.below {w w' : World} {v : Value} {rs : List R} (h : ReadsR w v rs) (hb : Below w.heap.size w w') : ReadsR w' v rs := by
  obtain ⟨p, c, rfl, h1, h2, h3, h4⟩ := h
  refine ⟨p, c, rfl, h1, h2, h3, fun h0 => ?_⟩
  obtain ⟨b, off, rfl, hlt, hc⟩ := h4 h0
  exact ⟨b, off, rfl, Nat.lt_of_lt_of_le hlt hb.size, fun i r hr => range_below (hc i r hr) hb hlt⟩
theorem ReadsR.shape {w : World} {v : Value} {rs : List R} (h : ReadsR w v rs) : ∃ p c, v = .slice p rs.length c ∧ rs.length ≤ c ∧ c ≤ maxLen := by
  obtain ⟨p, c, h1, h2, h3, _⟩ := h
  exact ⟨p, c, h1, h2, h3⟩
theorem ReadsR.nil (w : World) : ReadsR w (.slice none 0 0) [] := ⟨none, 0, rfl, by simp, by simp, fun _ => rfl, fun h => by simp at h⟩
def bad (r : R) : Prop := r.type < 1 ∨ 11 < r.type ∨ r.least < 0 ∨ r.most < r.least ∨ 64 < r.most
instance (r : R) : Decidable (bad r) := by unfold bad; infer_instance
/-- The name of a rule was there before. -/
def dup (rs : List R) (k : Nat) (r : R) : Prop := ∃ x ∈ rs.take k, x.code = r.code ∧ x.vendor = r.vendor
instance (rs : List R) (k : Nat) (r : R) : Decidable (dup rs k r) := by unfold dup; infer_instance
/-- All but the first k rules may be (behind those). -/
def fine (rs : List R) : Prop := ∀ (i : Nat) (r : R), rs[i]? = some r → ¬ bad r ∧ ¬ dup rs i r
/-- May rules be? -/
def sound (rs : List R) : Prop := rs.length ≤ 64 ∧ fine rs

/-! The map of names. -/
def keyN (c v : Int) : Lit := .string (keyBytes [.int .u32 c, .int .u32 v])
theorem laid : laidOutB Tryd.prog = true := by kernel_rfl
theorem keyed65 : Keyed Tryd.prog 45 := Keyed.of_law (deep_law_laid laid (m := Tryd.prog.types.size + 1) (of_decide_eq_true (by kernel_rfl)) (of_decide_eq_true (by kernel_rfl)) (by kernel_rfl) (by rw [Tryd.underlying45]))
theorem cells65 : Tryd.prog.cellsOf 45 = 2 := by kernel_rfl
theorem cells22 : Tryd.prog.cellsOf 33 = 1 := by kernel_rfl
theorem lits22 (d : Nat) (n : Int) (h : (Lit.int .u32 n).wf = true) : Tryd.prog.keyLits (d + 1) 33 [.int .u32 n] = some [.int .u32 n] := by
  unfold Program.keyLits
  simp only [Tryd.underlying33, h]
  rfl
theorem lits65 (d : Nat) (c v : Int) (w1 : (Lit.int .u32 c).wf = true) (w2 : (Lit.int .u32 v).wf = true) : Tryd.prog.keyLits (d + 1 + 1) 45 [.int .u32 c, .int .u32 v] = some [.int .u32 c, .int .u32 v] := by
  unfold Program.keyLits
  simp only [Tryd.underlying45, cells65]
  simp [cells22, lits22 d c w1, lits22 d v w2]
theorem key_lits (c v : Int) (w1 : (Lit.int .u32 c).wf = true) (w2 : (Lit.int .u32 v).wf = true) : Tryd.prog.keyLits (Tryd.prog.types.size + 1) 45 [.int .u32 c, .int .u32 v] = some [.int .u32 c, .int .u32 v] := by
  obtain ⟨d, hd⟩ : ∃ d, Tryd.prog.types.size = d + 1 := ⟨Tryd.prog.types.size - 1, by have : 1 ≤ Tryd.prog.types.size := of_decide_eq_true (by kernel_rfl); omega⟩
  rw [hd]
  exact lits65 d c v w1 w2
set_option maxRecDepth 20000 in
theorem keyOf65 (c v : Int) (hc : 0 ≤ c ∧ c ≤ 4294967295) (hv : 0 ≤ v ∧ v ≤ 4294967295) : keyOf Tryd.prog 45 (.agg #[.int .u32 c, .int .u32 v]) = some (keyN c v) := by
  have w1 : (Lit.int .u32 c).wf = true := by simp [Lit.wf, IntKind.min, IntKind.max, IntKind.signed, IntKind.bits]; omega
  have w2 : (Lit.int .u32 v).wf = true := by simp [Lit.wf, IntKind.min, IntKind.max, IntKind.signed, IntKind.bits]; omega
  have hk : Tryd.prog.keyType 45 = true := by kernel_rfl
  have hf : Value.formed Tryd.prog 45 (.agg #[.int .u32 c, .int .u32 v]) = true := by simp [Value.formed, Tryd.underlying45, cells65]
  unfold keyOf
  simp only [Tryd.underlying45, hk, hf, Bool.and_self, if_true, Value.cells]
  rw [key_lits c v w1 w2]
  rfl
/-- The names of the first k rules. -/
def names (rs : List R) : List Lit := rs.map fun r => keyN r.code r.vendor
theorem isKey (l : Lit) (h : ∃ s, l = .string s) : WideAt.IsKeyLit l := by obtain ⟨s, rfl⟩ := h; trivial
theorem same_name (r x : R) (hr : r.ok) (hx : x.ok) : (keyN x.code x.vendor).sameKey (keyN r.code r.vendor) = decide (x.code = r.code ∧ x.vendor = r.vendor) := by
  by_cases h : x.code = r.code ∧ x.vendor = r.vendor
  · rw [h.1, h.2, decide_eq_true ⟨rfl, rfl⟩]
    exact WideAt.sameKey_self (isKey _ ⟨_, rfl⟩)
  · rw [decide_eq_false h]
    refine sameKey_ne fun e => h ?_
    have h1 := keyOf65 x.code x.vendor hx.1 hx.2.1
    have h2 := keyOf65 r.code r.vendor hr.1 hr.2.1
    rw [← e] at h2
    have := keyed65.inj h1 h2
    simp at this
    exact this
abbrev tt : DataW Unit := .lit (.bool true)
theorem atKey_fold (k : Lit) (z : DataW Unit) (hk : WideAt.IsKeyLit k) : ∀ (acc : List Lit) (m : DataW Unit), IsMap m → (∀ x ∈ acc, WideAt.IsKeyLit x) → (acc.foldl (fun m x => m.put x tt) m).atKey k z = if acc.any (fun x => x.sameKey k) then tt else m.atKey k z
  | [], m, _, _ => by simp
  | x :: acc, m, hm, h => by
    have hx := h x (List.mem_cons_self ..)
    rw [List.foldl_cons, atKey_fold k z hk acc _ (hm.put x tt) (fun y hy => h y (List.mem_cons_of_mem _ hy)), List.any_cons]
    by_cases e : x = k
    · subst e
      rw [atKey_put_same hm hx, WideAt.sameKey_self hx]
      simp
    · rw [atKey_put_other (fun h => e h.symm), sameKey_ne e, Bool.false_or]
theorem atKey_set (acc : List Lit) (k : Lit) (z : DataW Unit) (h : ∀ x ∈ acc, WideAt.IsKeyLit x) (hk : WideAt.IsKeyLit k) : (setOf tt acc).atKey k z = if acc.any (fun x => x.sameKey k) then tt else z := by
  unfold setOf
  rw [atKey_fold k z hk acc _ isMap_empty h]
  rfl
/-- What the map says of a name. -/
theorem seen_at (rs : List R) (k : Nat) (r : R) (hr : r.ok) (hok : ∀ x ∈ rs, x.ok) : (setOf tt (names (rs.take k))).atKey (keyN r.code r.vendor) (.lit (.bool false)) = .lit (.bool (decide (dup rs k r))) := by
  rw [atKey_set _ (keyN r.code r.vendor) _ (fun x hx => by obtain ⟨y, _, rfl⟩ := List.mem_map.1 hx; exact isKey _ ⟨_, rfl⟩) (isKey (keyN r.code r.vendor) ⟨_, rfl⟩)]
  have e : ((names (rs.take k)).any fun x => x.sameKey (keyN r.code r.vendor)) = decide (dup rs k r) := by
    rw [Bool.eq_iff_iff, List.any_eq_true, decide_eq_true_eq]
    constructor
    · rintro ⟨l, hl, hs⟩
      obtain ⟨y, hy, rfl⟩ := List.mem_map.1 hl
      rw [same_name r y hr (hok y (List.mem_of_mem_take hy))] at hs
      exact ⟨y, hy, of_decide_eq_true hs⟩
    · rintro ⟨y, hy, h⟩
      exact ⟨_, List.mem_map.2 ⟨y, hy, rfl⟩, by rw [same_name r y hr (hok y (List.mem_of_mem_take hy))]; exact decide_eq_true h⟩
  rw [e]
  by_cases h : dup rs k r
  · rw [decide_eq_true h]; rfl
  · rw [decide_eq_false h]; rfl
theorem names_snoc (rs : List R) (k : Nat) (r : R) (h : rs[k]? = some r) : setOf tt (names (rs.take (k + 1))) = (setOf tt (names (rs.take k))).put (keyN r.code r.vendor) tt := by
  rw [List.take_add_one, h]
  simp [names, setOf_snoc]

section
variable {P : Program} {w : World} {ops : Array Oper} {rest : List Oper} {o : Oper} {a : Act} {Q : Exit → Act → World → Prop}
/-- 'm[k]' at elements that are bools. -/
theorem wpl_lookupB (hg : o.guard = none) (m x : Operand) (t : TypeId) (hop : o.op = Op.lookup t m x false)
    (k e : TypeId) (K : Keyed P k) (ht : P.underlying t = some (.map k e)) (he : P.underlying e = some .bool) (hz : (zeroValue e).run P w = .ok (.bool false) w) (b n : Nat) (D : DataW Unit)
    (hm : a.eval m = .map (some b)) (hown : w.ownsMap P k (plainElem P e) b n D) (key : Value) (kl : Lit) (hx : a.eval x = key) (hkey : keyOf P k key = some kl) (r : Bool) (hr : D.atKey kl (.lit (.bool false)) = .lit (.bool r))
    (hK : wpList P ops Q rest (a.put o.dst (.bool r)) w) : wpList P ops Q (o :: rest) a w := by
  refine wpList_plain hg fun K' hK' => ?_
  obtain ⟨v, ps, hrun, hv⟩ := hown.lookup K ht hz (plainElem_bool he false) hkey
  rw [hr] at hv
  have hvv : v = .bool r := by
    unfold plainElem at hv
    cases v <;> simp [he, Value.formed, DataW.trod, Value.cells] at hv
    exact congrArg _ hv.1
  subst hvv
  unfold Oper.wp
  simp [execOp, hop, hm, hx, hrun, Result.andThen]
  exact hK' _ _ hK
/-- A new map. -/
theorem wpl_makeMap (hg : o.guard = none) (t : TypeId) (ho : o.op = .makeMap t none) (hrun : (Instr.makeMap t none).run P w = .ok (.map (some w.heap.size)) (w.alloc (.map #[] 0))) (k : TypeId) (R : Value → Option (DataW Unit × List MemPlace))
    (h : ∀ w', w'.ownsMap P k R w.heap.size 0 (.map []) → Below w.heap.size w w' → wpList P ops Q rest (a.put o.dst (.map (some w.heap.size))) w') : wpList P ops Q (o :: rest) a w := by
  refine wpList_plain hg fun K' hK' => ?_
  unfold Oper.wp
  simp [execOp, ho, hrun, Result.andThen]
  exact hK' _ _ (h _ (World.ownsMap_made w P k R) ((Below.refl _ _).alloc (Nat.le_refl _) _))
end
end Go.Proofs.YtjfmahodbdianaaDoor.Rule
