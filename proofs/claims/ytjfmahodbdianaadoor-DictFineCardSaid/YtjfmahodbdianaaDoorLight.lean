/-
  Contracts: light; what Fits answers, wherever the tables of utf8 stand; append of rules that came in.
-/
import Derived.Test.YtjfmahodbdianaaDoorPlain1
import Derived.Test.YtjfmahodbdianaaDoorLaws1
import Derived.Test.YtjfmahodbdianaaDoorSame2
namespace Go.Proofs.YtjfmahodbdianaaDoor.Utf
open Go.RowKit Mem Cells Ops
set_option linter.unusedVariables false
set_option maxRecDepth 100000 in
theorem valid0 (v : Value) (w : World) (hr : Reads .u8 w v []) : Calls Tryd.prog 31 #[v] w fun e w' => e = .returned (.bool (v8 [])) ∧ Below w.heap.size w w' := by
  obtain ⟨p, c, rfl, h1, h2, h3, h4⟩ := hr
  have hcm : c ≤ 9223372036854775807 := by unfold maxLen at h2; omega
  clear h4 h1 h2
  rw [v8_nil]
  show Calls Tryd.prog 31 #[.slice p 0 c] w _
  go_enter Tryd.func31, Tryd.ntmps31
  go_wp2_with fail
  go_loopw [0] (fun u wr => (∃ p c, u = .slice p 0 c) ∧ Below w.heap.size w wr) (fun u _ => 0)
  case atStart => exact ⟨⟨_, _, rfl⟩, Below.refl _ _⟩
  case round =>
    obtain ⟨⟨p', c', rfl⟩, hbl⟩ := hrel
    go_wp2_with fail
    go_ret
    exact ⟨rfl, hbl⟩
theorem valid_ (v : Value) (xs : List Int) (w : World) (hr : Reads .u8 w v xs) (hx : bytesOk xs) (ht : Lib.Utf8Tabs 0 1 w) : Calls Tryd.prog 31 #[v] w fun e w' => e = .returned (.bool (v8 xs)) ∧ Below w.heap.size w w' := by
  rcases Nat.eq_zero_or_pos xs.length with h | h
  · have : xs = [] := List.eq_nil_of_length_eq_zero h
    subst this
    exact valid0 v w hr
  · exact valid v xs w hr hx ht h
end Go.Proofs.YtjfmahodbdianaaDoor.Utf
namespace Go.Proofs.YtjfmahodbdianaaDoor.Dict
open Go.RowKit Mem Cells Ops Rule Avps Go.Maps
set_option linter.unusedVariables false
set_option linter.unusedSimpArgs false
theorem fitsAt (t : Int) (xs : List Int) (w : World) (ht : Lib.Utf8Tabs 0 1 w) (hx : ∀ x ∈ xs, 0 ≤ x ∧ x ≤ 255) (hl : xs.length ≤ 140737488355300) : FitsAt w Fit.fitF t xs := fun y v hb hr =>
  Fit.fits v xs y hr hx hl t (fun _ => Utf.valid_ v xs y hr hx (Utf.tabs_below ht hb))
set_option maxRecDepth 100000 in
theorem light (p p' : Option Addr) (n c m c' : Nat) (w : World) (hn : n ≤ 9223372036854775807) (hm : m ≤ 9223372036854775807) : Calls Tryd.prog 9 #[.slice p n c, .slice p' m c'] w fun e w' => e = .returned (.bool (decide (n ≤ 80 ∧ m ≤ 150))) ∧ w' = w := by
  by_cases h1 : n ≤ 80
  · have b1 : (n : Int) ≤ 80 := by omega
    by_cases h2 : m ≤ 150
    · have b2 : (m : Int) ≤ 150 := by omega
      rw [decide_eq_true (⟨h1, h2⟩ : n ≤ 80 ∧ m ≤ 150)]
      go_enter Tryd.func9, Tryd.ntmps9
      go_wp2_with fail
      go_ret
      exact ⟨rfl, rfl⟩
    · have b2 : ¬ (m : Int) ≤ 150 := by omega
      rw [decide_eq_false (fun h => h2 h.2 : ¬ (n ≤ 80 ∧ m ≤ 150))]
      go_enter Tryd.func9, Tryd.ntmps9
      go_wp2_with fail
      go_ret
      exact ⟨rfl, rfl⟩
  · have b1 : ¬ (n : Int) ≤ 80 := by omega
    rw [decide_eq_false (fun h => h1 h.1 : ¬ (n ≤ 80 ∧ m ≤ 150))]
    go_enter Tryd.func9, Tryd.ntmps9
    go_wp2_with fail
    go_ret
    exact ⟨rfl, rfl⟩
theorem buildNone (w : World) : (Instr.buildSlice 22 0 #[]).run Tryd.prog w = .ok (.slice (some ⟨w.heap.size, 0, none⟩) 0 0) (w.alloc (.cells #[] 37)) := by kernel_rfl
section
variable {P : Program} {w : World} {ops : Array Oper} {rest : List Oper} {o : Oper} {a : Act} {Q : Exit → Act → World → Prop}
/-- Append of rules that came in, whether or not there are any. -/
theorem wpl_appendRR (hgd : o.guard = none) (s x : Operand) (t : TypeId) (ho : o.op = .call { callee := .builtin .append, args := #[s, x], argTypes := #[t, t] })
    (B e bytes : Nat) (i : TypeInfo) (z : Value) (ht : P.underlying t = some (.slice e)) (hi : P.info? e = some i) (hz : i.zero = some z) (hsize : i.size = 6) (hby : i.bytes = bytes) (hzs : z.cells.size = 6)
    (v u : Value) (xs ys : List R) (hs : a.eval s = v) (hx : a.eval x = u) (hown : OwnR e B w v xs) (hr : ReadsR w u ys)
    (h63 : xs.length + ys.length ≤ maxLen) (hbytes : (xs.length + ys.length) * bytes ≤ 140737488355328) (hbase : B ≤ w.heap.size)
    (h : ∀ v' w', OwnR e B w' v' (xs ++ ys) → w.grownBy w' v.ownBlock → wpList P ops Q rest (a.put o.dst v') w') : wpList P ops Q (o :: rest) a w := by
  rcases Nat.eq_zero_or_pos ys.length with h0 | h0
  · have e0 : ys = [] := List.eq_nil_of_length_eq_zero h0
    subst e0
    obtain ⟨p, c, rfl, h1, h2, h3, h4⟩ := hr
    cases p with
    | none =>
      obtain rfl := h3 rfl
      exact wpList_append_own_none hgd s x t ho B e i 6 ht hi v xs.length (flatR xs) hs hown hx (h v w (by rw [List.append_nil]; exact hown) ⟨rfl, rfl, rfl, Nat.le_refl _, fun _ _ _ => rfl⟩)
    | some ad =>
      refine wpList_append_own w hgd s x t ho B e i z 6 bytes ht hi hz hsize hby hzs (by omega) v xs.length _ hs hown ad 0 c [] hx rfl (fun j u hj => by simp at hj) (fun u hu => by cases hu) (by simpa using h63) (by simpa using hbytes) hbase ?_
      intro v' w' h5 h6 _
      refine h v' w' ?_ h6
      unfold OwnR
      simpa using h5
  · exact wpl_appendR hgd s x t ho B e bytes i z ht hi hz hsize hby hzs v u xs ys hs hx hown hr h0 h63 hbytes hbase h
end
theorem failReads {B : Nat} {w : World} {v : Value} {F : List A} (h : FailIs B w v F) (hl : F.length ≤ 1) : ReadsL w v F := by
  match F, h, hl with
  | [], h, _ => have e : v = .slice none 0 0 := h; subst e; exact ReadsL.nil w
  | [x], h, _ =>
    obtain ⟨g, d, rfl, _, hat, hrow⟩ := h
    refine ⟨_, 1, [(x, d)], rfl, Nat.le_refl _, by simp [maxLen], (fun h => by cases h), rfl, fun z hz => ?_, fun _ => ⟨g, 0, rfl, hat.lt, fun j hj => ?_⟩⟩
    · rw [List.mem_singleton] at hz
      subst hz
      exact hrow.reads
    · rw [Nat.zero_add, hat.cell j, flat_one]
      simp
end Go.Proofs.YtjfmahodbdianaaDoor.Dict
