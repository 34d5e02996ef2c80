/-
  Nets: frames and their cells; which blocks are whose; lists of frames of the call's own (plain). No walk.
-/
import Derived.Test.YtmdhpjbahenbhaaReg
import Derived.Maps.AppendAt
import Derived.Maps.OwnSet
import Derived.Maps.OwnOps
import Derived.DeepKeys4
import Derived.Deep.DeepMust
import Derived.Deep.AppendSrc
import Derived.Lib.Hide
namespace Go.Proofs.Ytmdhpjbahenbhaa.Net
open Go.RowKit Mem Cells Ops Go.Maps
set_option linter.unusedVariables false
set_option linter.unusedSimpArgs false

/-- A frame. -/
structure F where
  fh : Int
  fp : Int
  th : Int
  tp : Int
  bytes : List Int
  turned : Bool
def i64 (n : Int) : Prop := -9223372036854775808 ≤ n ∧ n ≤ 9223372036854775807
def F.ok (f : F) : Prop := f.bytes.length ≤ 4096 ∧ ∀ b ∈ f.bytes, 0 ≤ b ∧ b ≤ 255
def rowF (f : F) (d : Value) : List Value := [.int .i64 f.fh, .int .i64 f.fp, .int .i64 f.th, .int .i64 f.tp, d, .bool f.turned]
def flatF (zs : List (F × Value)) : List Value := zs.flatMap fun z => rowF z.1 z.2
theorem flatF_append (xs ys : List (F × Value)) : flatF (xs ++ ys) = flatF xs ++ flatF ys := by simp [flatF]
theorem flatF_cons (z : F × Value) (zs : List (F × Value)) : flatF (z :: zs) = rowF z.1 z.2 ++ flatF zs := rfl
theorem flatF_one (f : F) (d : Value) : flatF [(f, d)] = rowF f d := by simp [flatF]
theorem rowF_length (f : F) (d : Value) : (rowF f d).length = 6 := rfl
theorem flatF_length (zs : List (F × Value)) : (flatF zs).length = zs.length * 6 := by
  induction zs with
  | nil => rfl
  | cons z zs ih => rw [flatF_cons, List.length_append, ih, List.length_cons, rowF_length]; omega
theorem flatF_get (zs : List (F × Value)) (i : Nat) (z : F × Value) (h : zs[i]? = some z) (j : Nat) (hj : j < 6) : (flatF zs)[i * 6 + j]? = (rowF z.1 z.2)[j]? := by
  induction zs generalizing i with
  | nil => simp at h
  | cons y zs ih =>
    have hl : (rowF y.1 y.2).length = 6 := rfl
    rw [flatF_cons]
    cases i with
    | zero =>
      simp at h
      subst h
      rw [List.getElem?_append_left (by rw [hl]; omega)]
      simp
    | succ i =>
      rw [List.getElem?_append_right (by rw [hl]; omega), hl, show (i + 1) * 6 + j - 6 = i * 6 + j from by omega]
      exact ih i (by simpa using h)
theorem flatF_take (zs : List (F × Value)) (k : Nat) : flatF (zs.take k) = (flatF zs).take (k * 6) := by
  induction zs generalizing k with
  | nil => simp [flatF]
  | cons z zs ih =>
    cases k with
    | zero => simp [flatF]
    | succ k =>
      rw [List.take_succ_cons, flatF_cons, flatF_cons, ih, List.take_append, rowF_length, show (k + 1) * 6 - 6 = k * 6 from by omega, List.take_of_length_le (l := rowF z.1 z.2) (by rw [rowF_length]; omega)]
theorem flatF_drop (zs : List (F × Value)) (k : Nat) : flatF (zs.drop k) = (flatF zs).drop (k * 6) := by
  induction zs generalizing k with
  | nil => simp [flatF]
  | cons z zs ih =>
    cases k with
    | zero => simp [flatF]
    | succ k =>
      rw [List.drop_succ_cons, flatF_cons, ih, List.drop_append, rowF_length, show (k + 1) * 6 - 6 = k * 6 from by omega, show (rowF z.1 z.2).drop ((k + 1) * 6) = [] from List.drop_eq_nil_of_le (by rw [rowF_length]; omega), List.nil_append]

/-! Which blocks turn. -/
structure ButX (X : Nat → Prop) (w w' : World) : Prop where
  os : w'.os = w.os
  tape : w'.tape = w.tape
  output : w'.output = w.output
  size : w.heap.size ≤ w'.heap.size
  block : ∀ k, k < w.heap.size → ¬ X k → w'.heap[k]? = w.heap[k]?
/-- Whose blocks were X: those, and the ones made since. -/
def more (X : Nat → Prop) (w w' : World) : Nat → Prop := fun k => X k ∨ (w.heap.size ≤ k ∧ k < w'.heap.size)
theorem ButX.refl (X : Nat → Prop) (w : World) : ButX X w w := ⟨rfl, rfl, rfl, Nat.le_refl _, fun _ _ _ => rfl⟩
theorem ButX.trans {X : Nat → Prop} {a b c : World} (h : ButX X a b) (k : ButX (more X a b) b c) : ButX X a c :=
  ⟨k.os.trans h.os, k.tape.trans h.tape, k.output.trans h.output, Nat.le_trans h.size k.size, fun i hi hx => (k.block i (Nat.lt_of_lt_of_le hi h.size) (fun e => e.elim hx (fun e => by omega))).trans (h.block i hi hx)⟩
theorem ButX.mono {X Y : Nat → Prop} {a b : World} (h : ButX X a b) (hX : ∀ k, X k → Y k) : ButX Y a b := ⟨h.os, h.tape, h.output, h.size, fun i hi hn => h.block i hi (fun e => hn (hX i e))⟩
theorem ButX.ofBelow {X : Nat → Prop} {a b : World} (h : Below a.heap.size a b) : ButX X a b := ⟨h.os, h.tape, h.output, h.size, fun i hi _ => h.block i hi⟩
theorem ButX.ofGrown {X : Nat → Prop} {a b : World} {r : Option Nat} (h : a.grownBy b r) (hr : ∀ k, r = some k → X k) : ButX X a b := ⟨h.os, h.tape, h.output, h.size, fun i hi hn => h.block i hi (fun e => hn (hr i e.symm))⟩
theorem ButX.below {X : Nat → Prop} {a b : World} {B : Nat} (h : ButX X a b) (hX : ∀ k, X k → B ≤ k) (hB : B ≤ a.heap.size) : Below B a b := ⟨h.os, h.tape, h.output, h.size, fun i hi => h.block i (by omega) (fun e => by have := hX i e; omega)⟩
theorem more_self {X : Nat → Prop} {a b : World} : ∀ k, X k → more X a b k := fun _ h => .inl h
theorem more_more {X : Nat → Prop} {a b c : World} (h1 : a.heap.size ≤ b.heap.size) (h2 : b.heap.size ≤ c.heap.size) : ∀ k, more (more X a b) b c k → more X a c k := by
  intro k hk
  rcases hk with (h | h) | h
  · exact .inl h
  · exact .inr ⟨h.1, by omega⟩
  · exact .inr ⟨by omega, h.2⟩
theorem more_le {X : Nat → Prop} {a b c : World} (h : b.heap.size ≤ c.heap.size) : ∀ k, more X a b k → more X a c k := by
  intro k hk
  rcases hk with h1 | h1
  · exact .inl h1
  · exact .inr ⟨h1.1, by omega⟩
theorem more_from {X : Nat → Prop} {a b : World} {B : Nat} (hX : ∀ k, X k → B ≤ k) (hB : B ≤ a.heap.size) : ∀ k, more X a b k → B ≤ k := by
  intro k hk
  rcases hk with h | h
  · exact hX k h
  · omega

/-! Blocks of a kind are not those of another kind. -/
theorem own_at {w : World} {B e k n : Nat} {v : Value} {xs : List Value} (h : w.ownsRow B e k v n xs) {g : Nat} (hg : v.ownBlock = some g) : ∃ cur, At w g e cur := by
  rcases h.2 with ⟨rfl, _⟩ | ⟨g', cap, cur, rfl, _, hgg, _⟩
  · cases hg
  · cases hg
    exact ⟨cur, hgg⟩
theorem at_ne {w : World} {g g' T T' : Nat} {cs cs' : Array Value} (h : At w g T cs) (h' : At w g' T' cs') (hT : T ≠ T') : g ≠ g' := by
  intro e
  subst e
  have h1 : w.heap[g]? = some (.cells cs T (0, 0)) := h
  have h2 : w.heap[g]? = some (.cells cs' T' (0, 0)) := h'
  rw [h1] at h2
  simp at h2
  exact hT h2.2
theorem own_ne {w : World} {B e k n : Nat} {v : Value} {xs : List Value} (h : w.ownsRow B e k v n xs) {g T : Nat} {cs : Array Value} (hat : At w g T cs) (hT : e ≠ T) : v.ownBlock ≠ some g := by
  intro hg
  obtain ⟨cur, hc⟩ := own_at h hg
  exact at_ne hc hat hT rfl
theorem own_ne2 {w : World} {B e k n B' e' k' n' : Nat} {v v' : Value} {xs xs' : List Value} (h : w.ownsRow B e k v n xs) (h' : w.ownsRow B' e' k' v' n' xs') (hT : e ≠ e') : v.ownBlock = none ∨ v.ownBlock ≠ v'.ownBlock := by
  cases hg : v'.ownBlock with
  | none => cases hv : v.ownBlock <;> simp
  | some g =>
    obtain ⟨cur, hc⟩ := own_at h' hg
    exact .inr (own_ne h hc hT)

/-- Bytes of X's own. -/
def Own8 (X : Nat → Prop) (w : World) (d : Value) (xs : List Int) : Prop := Row .u8 5 0 w d xs ∧ ∀ k, d.ownBlock = some k → X k
theorem Own8.mono {X Y : Nat → Prop} {w : World} {d : Value} {xs : List Int} (h : Own8 X w d xs) (hX : ∀ k, X k → Y k) : Own8 Y w d xs := ⟨h.1, fun k hk => hX k (h.2 k hk)⟩
theorem Own8.kept {X : Nat → Prop} {w w' : World} {d : Value} {xs : List Int} {r : Option Nat} (h : Own8 X w d xs) (hg : w.grownBy w' r) (hne : d.ownBlock = none ∨ d.ownBlock ≠ r) : Own8 X w' d xs := ⟨h.1.kept hg hne, h.2⟩
theorem Own8.below {X : Nat → Prop} {w w' : World} {d : Value} {xs : List Int} (h : Own8 X w d xs) (hb : Below w.heap.size w w') : Own8 X w' d xs := ⟨h.1.below hb, h.2⟩
theorem row_one {w : World} {d : Value} {xs : List Int} {B : Nat} (h : Row .u8 5 B w d xs) : d.oneCell' = true := by obtain ⟨_, _, rfl, _⟩ := h.reads; rfl
theorem Own8.one {X : Nat → Prop} {w : World} {d : Value} {xs : List Int} (h : Own8 X w d xs) : d.oneCell' = true := row_one h.1
/-- Two that share no block. -/
def Apart (a b : Value) : Prop := ∀ k, a.ownBlock = some k → b.ownBlock ≠ some k
theorem Apart.symm {a b : Value} (h : Apart a b) : Apart b a := fun k h1 h2 => h k h2 h1
/-- The slice v holds these frames; its block and those of the frames' bytes are X's. -/
structure OwnF (X : Nat → Prop) (w : World) (v : Value) (zs : List (F × Value)) : Prop where
  row : w.ownsRow 0 35 6 v zs.length (flatF zs)
  mine : ∀ k, v.ownBlock = some k → X k
  bytes : ∀ z ∈ zs, Own8 X w z.2 z.1.bytes
  apart : zs.Pairwise fun a b => Apart a.2 b.2
section
variable {X Y : Nat → Prop} {w w' : World} {v : Value} {zs : List (F × Value)}
theorem OwnF.mono (h : OwnF X w v zs) (hX : ∀ k, X k → Y k) : OwnF Y w v zs := ⟨h.row, fun k hk => hX k (h.mine k hk), fun z hz => (h.bytes z hz).mono hX, h.apart⟩
theorem OwnF.nil (X : Nat → Prop) (w : World) : OwnF X w (.slice none 0 0) [] := ⟨World.ownsRow_nil _ _ _ _, (fun k hk => by cases hk), (fun z hz => by cases hz), List.Pairwise.nil⟩
theorem OwnF.kept {r : Option Nat} (h : OwnF X w v zs) (hg : w.grownBy w' r) (h1 : v.ownBlock = none ∨ v.ownBlock ≠ r) (h2 : ∀ z ∈ zs, z.2.ownBlock = none ∨ z.2.ownBlock ≠ r) : OwnF X w' v zs :=
  ⟨h.row.kept hg h1, h.mine, fun z hz => (h.bytes z hz).kept hg (h2 z hz), h.apart⟩
theorem OwnF.below (h : OwnF X w v zs) (hb : Below w.heap.size w w') : OwnF X w' v zs :=
  h.kept (grown_below none hb) (by cases v.ownBlock <;> simp) (fun z _ => by cases z.2.ownBlock <;> simp)
/-- A store into a block of another kind. -/
theorem OwnF.at_ {g T : Nat} {cs : Array Value} (h : OwnF X w v zs) (hg : w.grownBy w' (some g)) (hat : At w g T cs) (h35 : T ≠ 35) (h5 : T ≠ 5) : OwnF X w' v zs :=
  h.kept hg (.inr (own_ne h.row hat (Ne.symm h35))) (fun z hz => .inr (own_ne (h.bytes z hz).1 hat (Ne.symm h5)))
/-- What others do. -/
theorem OwnF.others (h : OwnF X w v zs) (hb : ButX Y w w') (hxy : ∀ k, X k → ¬ Y k) : OwnF X w' v zs := by
  have key : ∀ {B e k n : Nat} {u : Value} {xs : List Value}, w.ownsRow B e k u n xs → (∀ q, u.ownBlock = some q → X q) → w'.ownsRow B e k u n xs := by
    intro B e k n u xs ho hm
    refine ⟨ho.1, ?_⟩
    rcases ho.2 with hn | ⟨g, cap, cur, rfl, hB, hgg, r⟩
    · exact .inl hn
    · exact .inr ⟨g, cap, cur, rfl, hB, by rw [hb.block g (Array.getElem?_eq_some_iff.1 hgg).1 (hxy g (hm g rfl))]; exact hgg, r⟩
  exact ⟨key h.row h.mine, h.mine, fun z hz => ⟨key (h.bytes z hz).1 (h.bytes z hz).2, (h.bytes z hz).2⟩, h.apart⟩
theorem OwnF.shape (h : OwnF X w v zs) : ∃ p c, v = .slice p zs.length c ∧ zs.length ≤ c ∧ c ≤ maxLen := by
  rcases h.row.2 with ⟨rfl, h0⟩ | ⟨g, cap, cur, rfl, _, _, h1, h2, _⟩
  · exact ⟨none, 0, by rw [h0], by omega, by simp [maxLen]⟩
  · exact ⟨_, _, rfl, h1, h2⟩
/-- An element. -/
theorem OwnF.elem (h : OwnF X w v zs) (i : Nat) (z : F × Value) (hz : zs[i]? = some z) : ∃ g c, v = .slice (some ⟨g, 0, none⟩) zs.length c ∧ g < w.heap.size ∧ X g ∧ zs.length ≤ c ∧ w.rangeAt g (i * 6) (rowF z.1 z.2) ∧ Own8 X w z.2 z.1.bytes := by
  have hi : i < zs.length := (List.getElem?_eq_some_iff.1 hz).1
  have hr := h.row
  have hm := h.mine
  rcases h.row.2 with ⟨_, h0⟩ | ⟨g, cap, cur, rfl, _, hgg, h1, h2, _⟩
  · omega
  · refine ⟨g, cap, rfl, (Array.getElem?_eq_some_iff.1 hgg).1, hm g rfl, h1, fun j u hj => ?_, h.bytes z (List.mem_of_getElem? hz)⟩
    have hj6 : j < 6 := (List.getElem?_eq_some_iff.1 hj).1
    have := hr.cells (g := g) rfl (i * 6 + j) u (by rw [flatF_get zs i z hz j hj6]; exact hj)
    rwa [add_none, Nat.zero_add] at this
end
theorem info35 : (Try.prog.info? 35).map (fun i => (i.zero, i.size, i.bytes)) = some (some (.agg #[.int .i64 0, .int .i64 0, .int .i64 0, .int .i64 0, .slice none 0 0, .bool false]), 6, 64) := by kernel_rfl
theorem info5 : (Try.prog.info? 5).map (fun i => (i.zero, i.size, i.bytes)) = some (some (.int .u8 0), 1, 1) := by kernel_rfl
/-- append of frames that lie in a row. -/
theorem run_appendF {w : World} {v : Value} {zs : List (F × Value)} (ty : TypeId) (h : w.ownsRow 0 35 6 v zs.length (flatF zs)) (ad : Addr) (m c : Nat) (ys : List (F × Value)) (hm : ys.length = m)
    (hc : ∀ j u, (flatF ys)[j]? = some u → w.cell? (ad.add j) = some u) (hd : ∀ z ∈ ys, z.2.oneCell' = true) (hb : zs.length + m ≤ 100000) :
    ∃ v' w', (Builtin.append_ #[44, 44] ty #[v, .slice (some ad) m c]).run Try.prog w = .ok v' w' ∧ w'.ownsRow 0 35 6 v' (zs ++ ys).length (flatF (zs ++ ys)) ∧ w.grownBy w' v.ownBlock ∧ (v'.ownBlock = v.ownBlock ∨ v'.ownBlock = some w.heap.size) := by
  obtain ⟨i, hi, hz0, hz1, hz2⟩ := info_parts info35
  obtain ⟨v', w', hr, h2, h3, _, h5⟩ := run_append_own_at (P := Try.prog) w 0 44 ty 35 i _ 6 64 Try.underlying44 hi hz0 hz1 hz2 rfl (by omega) v zs.length (flatF zs) h ad m c (flatF ys) (by rw [flatF_length, hm]) hc (by
    intro u hu
    obtain ⟨z, hz, hu⟩ := List.mem_flatMap.1 hu
    simp only [rowF, List.mem_cons, List.not_mem_nil, or_false] at hu
    rcases hu with rfl | rfl | rfl | rfl | rfl | rfl
    · rfl
    · rfl
    · rfl
    · rfl
    · exact hd z hz
    · rfl) (by unfold maxLen; omega) (by omega) (Nat.zero_le _)
  exact ⟨v', w', hr, by rw [List.length_append, flatF_append, hm]; exact h2, h3, h5⟩
/-- append of one frame. -/
theorem OwnF.append {X : Nat → Prop} {w : World} {v : Value} {zs : List (F × Value)} (ty : TypeId) (h : OwnF X w v zs) (f : F) (d : Value) (g0 : Nat) (hat : At w g0 35 (rowF f d).toArray) (hd : Own8 X w d f.bytes) (ha : ∀ z ∈ zs, Apart z.2 d) (hb : zs.length ≤ 99999) :
    ∃ v' w', (Builtin.append_ #[44, 44] ty #[v, .slice (some ⟨g0, 0, none⟩) 1 1]).run Try.prog w = .ok v' w' ∧ OwnF (more X w w') w' v' (zs ++ [(f, d)]) ∧ w.grownBy w' v.ownBlock := by
  obtain ⟨v', w', hr, h2, h3, h4⟩ := run_appendF ty h.row ⟨g0, 0, none⟩ 1 1 [(f, d)] rfl (by
    intro j u hj
    rw [flatF_one] at hj
    rw [add_none, Nat.zero_add, hat.cell j]
    simpa using hj) (fun z hz => by rw [List.mem_singleton] at hz; subst hz; exact hd.one) (by omega)
  refine ⟨v', w', hr, ⟨h2, ?_, ?_, ?_⟩, h3⟩
  · intro k hk
    have hlt := (h2.lt k hk).2
    rcases h4 with e | e
    · exact .inl (h.mine k (by rw [← e]; exact hk))
    · rw [e] at hk
      cases hk
      exact .inr ⟨Nat.le_refl _, hlt⟩
  · intro z hz
    rcases List.mem_append.1 hz with hz | hz
    · exact ((h.bytes z hz).kept h3 (own_ne2 (h.bytes z hz).1 h.row (by decide))).mono more_self
    · rw [List.mem_singleton] at hz
      subst hz
      exact (hd.kept h3 (own_ne2 hd.1 h.row (by decide))).mono more_self
  · rw [List.pairwise_append]
    refine ⟨h.apart, by simp, fun a ha' b hb' => ?_⟩
    rw [List.mem_singleton] at hb'
    subst hb'
    exact ha a ha'
end Go.Proofs.Ytmdhpjbahenbhaa.Net
