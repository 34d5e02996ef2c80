/-
  What Cut's loop keeps (plain).
-/
import Derived.Test.YteiiifonejkjbaaCut0
namespace Go.Proofs.Yteiiifonejkjbaa.Pcs
open Go.RowKit Go.Shelf Mem Cells Ops Chunk
set_option linter.unusedVariables false
set_option linter.unusedSimpArgs false

/-- The pieces that have come when the starts 'pre' are done. -/
def PL (s : Nat) (sq : Int) (un : Bool) (xs : List Int) (sz : Nat) (pre : List Nat) : List A := pre.mapIdx (fun i x => ⟨0, s, sq, decide (i = 0), false, un, (xs.drop x).take sz⟩)
theorem PL_snoc (s : Nat) (sq : Int) (un : Bool) (xs : List Int) (sz : Nat) (pre : List Nat) (x : Nat) : PL s sq un xs sz (pre ++ [x]) = PL s sq un xs sz pre ++ [⟨0, s, sq, decide (pre.length = 0), false, un, (xs.drop x).take sz⟩] := by
  simp [PL, List.mapIdx_append]
theorem PL_length (s : Nat) (sq : Int) (un : Bool) (xs : List Int) (sz : Nat) (pre : List Nat) : (PL s sq un xs sz pre).length = pre.length := by simp [PL]

/-- The state between two rounds. -/
def Mid (W0 : World) (gO gP : Nat) (s : Nat) (sq : Int) (un : Bool) (xs : List Int) (sz : Nat) (pre : List Nat) (W : World) : Prop :=
  (∃ v d bg, At W gO 35 #[v] ∧ At W gP 45 (row ⟨0, s, sq, bg, false, un, []⟩ d).toArray ∧ OwnQ W0.heap.size W v (PL s sq un xs sz pre)) ∧ ButX (fun k => k = gP ∨ k = gO) W0 W
theorem at_from {W W' : World} {g T : Nat} {cs : Array Value} {r : Option Nat} (h : At W g T cs) (hg : W.grownBy W' r) (hr : ∀ q, r = some q → ∃ o : Obj, W.heap[q]? = some o ∧ o.isCells = false) : At W' g T cs := by
  have hne : some g ≠ r := fun e => by
    obtain ⟨o, ho, hc⟩ := hr g e.symm
    have h2 : W.heap[g]? = some (.cells cs T (0, 0)) := h
    rw [h2] at ho
    cases ho
    cases hc
  unfold At
  rw [hg.block g h.lt hne]
  exact h
theorem butX_grown {X : Nat → Prop} {a b c : World} {r : Option Nat} (h : ButX X a b) (hg : b.grownBy c r) (hr : ∀ q, r = some q → X q ∨ a.heap.size ≤ q) : ButX X a c :=
  ⟨hg.os.trans h.os, hg.tape.trans h.tape, hg.output.trans h.output, Nat.le_trans h.size hg.size, fun i hi hx => (hg.block i (Nat.lt_of_lt_of_le hi h.size) (fun e => (hr i e.symm).elim hx (fun e => by omega))).trans (h.block i hi hx)⟩
theorem mid_own (W0 : World) (gO gP s : Nat) (sq : Int) (un : Bool) (xs : List Int) (sz : Nat) : OwnFrom W0.heap.size (Mid W0 gO gP s sq un xs sz) := by
  rintro pre A B r ⟨⟨v, d, bg, hO, hP, hQ⟩, hb⟩ hg hr
  exact ⟨⟨v, d, bg, at_from hO hg (fun q e => (hr q e).2), at_from hP hg (fun q e => (hr q e).2), hQ.from hg (fun q e => (hr q e).2)⟩, butX_grown hb hg (fun q e => .inr (hr q e).1)⟩
theorem kp_putObj {gA gB B : Nat} (hA : gA < B) (hB : gB < B) (W : World) (l : Nat) (o o' : Obj) (hl : B ≤ l) (h : W.heap[l]? = some o) (hc : o.isCells = false) (hw : o.isWalk = false) : Kp gA gB W (W.putObj l o') := by
  have hg := grownBy_putObj' W l o'
  have key : ∀ g, g < B → (W.putObj l o').cell? ⟨g, 0, none⟩ = W.cell? ⟨g, 0, none⟩ := fun g hgB => by
    have : (W.putObj l o').heap[g]? = W.heap[g]? := hg.block g (by have := (Array.getElem?_eq_some_iff.1 h).1; omega) (by intro e; cases e; omega)
    simp only [World.cell?, this]
  exact ⟨key gA hA, key gB hB⟩
/-- A piece reads as its bytes. -/
theorem piece_reads {W : World} {b off cap sz : Nat} {xs : List Int} (hr : Reads .u8 W (.slice (some ⟨b, off, none⟩) xs.length cap) xs) (x : Nat) :
    Reads .u8 W (.slice (some ⟨b, off + x, none⟩) (min sz (xs.length - x)) (min sz (xs.length - x))) ((xs.drop x).take sz) := by
  obtain ⟨p, c, e, h1, h2, h3, h4⟩ := hr
  cases e
  have hl : ((xs.drop x).take sz).length = min sz (xs.length - x) := by simp
  refine ⟨_, _, by rw [hl], by rw [hl]; omega, by omega, (fun h => by cases h), fun h0 => ?_⟩
  rw [hl] at h0 ⊢
  obtain ⟨b', off', e', hb, hc⟩ := h4 (by omega)
  cases e'
  refine ⟨b, off + x, rfl, hb, fun i hi => ?_⟩
  rw [Nat.add_assoc, hc (x + i) (by omega)]
  have : i < sz := by omega
  simp [List.getD, this]
theorem reads_but {X : Nat → Prop} {w w' : World} {b off n cap : Nat} {xs : List Int} (hr : Reads .u8 w (.slice (some ⟨b, off, none⟩) n cap) xs) (hb : ButX X w w') (hx : ¬ X b) : Reads .u8 w' (.slice (some ⟨b, off, none⟩) n cap) xs := by
  obtain ⟨p, c, e, h1, h2, h3, h4⟩ := hr
  cases e
  refine ⟨_, _, rfl, h1, h2, h3, fun h0 => ?_⟩
  obtain ⟨b', off', e', hlt, hc⟩ := h4 h0
  cases e'
  refine ⟨b, off, rfl, Nat.lt_of_lt_of_le hlt hb.size, fun i hi => ?_⟩
  have hh : w'.heap[b]? = w.heap[b]? := hb.block b hlt hx
  rw [← hc i hi]
  simp only [World.cell?, hh]
theorem keeps_before {B g : Nat} {W W' : World} (hg : W.grownBy W' (some g)) (h : g < B) : KeepsFrom B W W' := KeepsFrom.of_grownBy hg (fun j e => by cases e; exact h)
theorem keeps_below {B : Nat} {W W' : World} (hb : Below W.heap.size W W') : KeepsFrom B W W' := KeepsFrom.of_grownBy (grown_below none hb) (fun j e => by cases e)
theorem keeps_own {B e k n B' : Nat} {v : Value} {xs : List Value} {W W' : World} (h : W.ownsRow B' e k v n xs) (hg : W.grownBy W' v.ownBlock) : KeepsFrom B W W' :=
  ⟨hg.size, fun i o hB hi ho => by
    rw [hg.block i (Array.getElem?_eq_some_iff.1 hi).1 (fun e' => by
      obtain ⟨cur, hc⟩ := own_at h e'.symm
      have h2 : W.heap[i]? = some (.cells cur e (0, 0)) := hc
      rw [h2] at hi
      cases hi
      cases ho)]
    exact hi⟩
theorem own_at_ne {B g T : Nat} {w : World} {v : Value} {al : List A} {cs : Array Value} (h : OwnQ B w v al) (hat : At w g T cs) (hT : T ≠ 45) : v.ownBlock ≠ some g := by
  obtain ⟨zs, h1, h2, h3⟩ := h
  exact own_ne h2 hat (fun e => hT e.symm)
theorem _root_.Go.Proofs.Yteiiifonejkjbaa.Cells.At.kept' {w w' : World} {g T : Nat} {cs : Array Value} {r : Option Nat} (h : At w g T cs) (hg : w.grownBy w' r) (hne : r ≠ some g) : At w' g T cs := by
  unfold At; rw [hg.block g h.lt (fun e => hne e.symm)]; exact h
theorem own_lt_ne {B g : Nat} {w : World} {v : Value} {al : List A} (h : OwnQ B w v al) (hg : g < B) : v.ownBlock ≠ some g := by
  obtain ⟨zs, h1, h2, h3⟩ := h
  intro e
  have := (h2.lt g e).1
  omega
/-- Which blocks a round turns: the two cells, and those of the loop's own. -/
def RX (B gO gP : Nat) (k : Nat) : Prop := k = gP ∨ k = gO ∨ B ≤ k
theorem rx_at {B gO gP g : Nat} {W A C : World} (h : ButX (RX B gO gP) W A) (hg : A.grownBy C (some g)) (hgg : g = gP ∨ g = gO) : ButX (RX B gO gP) W C :=
  butX_grown h hg (fun q e => by cases e; exact .inl (hgg.elim .inl (fun e => .inr (.inl e))))
theorem rx_own {B gO gP : Nat} {W A C : World} {v : Value} {al : List Pcs.A} (h : ButX (RX B gO gP) W A) (hq : OwnQ B A v al) (hg : A.grownBy C v.ownBlock) : ButX (RX B gO gP) W C :=
  butX_grown h hg (fun q e => by obtain ⟨zs, h1, h2, h3⟩ := hq; exact .inl (.inr (.inr (h2.lt q e).1)))
theorem rx_mid {B gO gP : Nat} {W0 W C : World} (hB : B = W0.heap.size) (h0 : ButX (fun k => k = gP ∨ k = gO) W0 W) (h : ButX (RX B gO gP) W C) : ButX (fun k => k = gP ∨ k = gO) W0 C :=
  ⟨h.os.trans h0.os, h.tape.trans h0.tape, h.output.trans h0.output, Nat.le_trans h0.size h.size, fun i hi hx => (h.block i (Nat.lt_of_lt_of_le hi h0.size) (fun e => by rcases e with e | e | e; exact hx (.inl e); exact hx (.inr e); omega)).trans (h0.block i hi hx)⟩
theorem rx_kp {B gO gP gA gB : Nat} {W C : World} (h : ButX (RX B gO gP) W C) (hA : gA < B) (hB : gB < B) (hBW : B ≤ W.heap.size) (n1 : gA ≠ gP) (n2 : gA ≠ gO) (n3 : gB ≠ gP) (n4 : gB ≠ gO) : Kp gA gB W C := by
  have key : ∀ g, g < B → g ≠ gP → g ≠ gO → C.cell? ⟨g, 0, none⟩ = W.cell? ⟨g, 0, none⟩ := fun g h1 h2 h3 => by
    have : C.heap[g]? = W.heap[g]? := h.block g (by omega) (fun e => by rcases e with e | e | e; exact h2 e; exact h3 e; omega)
    simp only [World.cell?, this]
  exact ⟨key gA hA n1 n2, key gB hB n3 n4⟩
/-- One cell of a piece turns: its End. -/
theorem flat_setEnd (zs : List (A × Value)) (i : Nat) (z : A × Value) (hz : zs[i]? = some z) : (flat zs).set (i * 7 + 4) (.bool true) = flat (zs.set i ({ z.1 with en := true }, z.2)) := by
  induction zs generalizing i with
  | nil => simp at hz
  | cons y zs ih =>
    have e : flat (y :: zs) = row y.1 y.2 ++ flat zs := rfl
    cases i with
    | zero =>
      simp at hz
      subst hz
      rfl
    | succ i =>
      have hl : (row y.1 y.2).length = 7 := rfl
      rw [e, List.set_append_right _ _ (by rw [hl]; omega), hl, show (i + 1) * 7 + 4 - 7 = i * 7 + 4 from by omega, ih i (by simpa using hz)]
      rfl
theorem OwnQ.block {B : Nat} {w : World} {v : Value} {al : List A} (h : OwnQ B w v al) (h0 : 0 < al.length) : ∃ g c, v = .slice (some ⟨g, 0, none⟩) al.length c ∧ al.length ≤ c ∧ c ≤ maxLen ∧ B ≤ g ∧ g < w.heap.size := by
  obtain ⟨zs, _, h3, _⟩ := h
  have hlt := h3.lt
  obtain ⟨_, ⟨rfl, hn⟩ | ⟨g, cap, cur, rfl, hb, hg, hle, hm, _⟩⟩ := h3
  · omega
  · exact ⟨g, cap, rfl, hle, hm, hb, (hlt g rfl).2⟩
/-- One piece's End is written true. -/
theorem OwnQ.setEnd {B g c n : Nat} {w : World} {al : List A} (h : OwnQ B w (.slice (some ⟨g, 0, none⟩) n c) al) (i : Nat) (a : A) (hi : al[i]? = some a) :
    ∃ cur, At w g 45 cur ∧ i * 7 + 4 < cur.size ∧ ∀ w', At w' g 45 (cur.set! (i * 7 + 4) (.bool true)) → w.grownBy w' (some g) → OwnQ B w' (.slice (some ⟨g, 0, none⟩) n c) (al.set i { a with en := true }) := by
  obtain ⟨zs, h1, h3, h4⟩ := h
  have hzl : zs.length = al.length := by rw [← h1, List.length_map]
  have hil : i < al.length := (List.getElem?_eq_some_iff.1 hi).1
  have hz : zs[i]? = some zs[i] := List.getElem?_eq_getElem (by omega)
  have ha : zs[i].1 = a := by
    have : al[i] = a := (List.getElem?_eq_some_iff.1 hi).2
    rw [← this]
    simp [← h1]
  have h3' := h3
  obtain ⟨hfl, ⟨e, _⟩ | ⟨g', cap, cur, e, hb, hg, hle, hm, hcs, hct⟩⟩ := h3
  · cases e
  cases e
  refine ⟨cur, hg, by omega, fun w' hat hgr => ⟨zs.set i ({ zs[i].1 with en := true }, zs[i].2), ?_, ⟨?_, .inr ⟨g, c, _, ?_, hb, hat, ?_, hm, ?_, ?_⟩⟩, fun z hz' => ?_⟩⟩
  · rw [List.map_set, h1, ha]
  · rw [flat_length, List.length_set, List.length_set, hzl]
  · rw [List.length_set]
  · rw [List.length_set]; exact hle
  · simpa using hcs
  · rw [List.length_set, ← flat_setEnd zs i zs[i] hz, ← hct]
    simp [List.take_set]
  · have hrow : Row .u8 5 B w z.2 z.1.data := by
      rcases List.mem_or_eq_of_mem_set hz' with hy | rfl
      · exact h4 z hy
      · exact h4 zs[i] (List.getElem_mem (by omega))
    exact hrow.kept hgr (.inr (own_ne hrow hg (by decide)))
/-- The pieces of a message: k of them. -/
def PE (s : Nat) (sq : Int) (un : Bool) (xs : List Int) (sz k : Nat) : List A := (List.range k).map fun i => ⟨0, s, sq, decide (i = 0), decide (i + 1 = k), un, (xs.drop (i * sz)).take sz⟩
theorem PE_length (s : Nat) (sq : Int) (un : Bool) (xs : List Int) (sz k : Nat) : (PE s sq un xs sz k).length = k := by simp [PE]
theorem PL_get (s : Nat) (sq : Int) (un : Bool) (xs : List Int) (sz k i : Nat) (h : i < k) : (PL s sq un xs sz (starts sz k))[i]? = some ⟨0, s, sq, decide (i = 0), false, un, (xs.drop (i * sz)).take sz⟩ := by
  have : (starts sz k)[i]? = some (i * sz) := by simp [starts, h]
  simp [PL, this]
theorem PL_end (s : Nat) (sq : Int) (un : Bool) (xs : List Int) (sz k : Nat) : (PL s sq un xs sz (starts sz (k + 1))).set k ⟨0, s, sq, decide (k = 0), true, un, (xs.drop (k * sz)).take sz⟩ = PE s sq un xs sz (k + 1) := by
  have hl : (PL s sq un xs sz (starts sz (k + 1))).length = k + 1 := by rw [PL_length, starts_length]
  refine List.ext_getElem? fun i => ?_
  by_cases hi : i < k + 1
  · rw [List.getElem?_set]
    by_cases e : k = i
    · subst e
      rw [if_pos rfl, if_pos (by omega)]
      simp [PE]
    · rw [if_neg e, PL_get _ _ _ _ _ _ _ hi]
      simp [PE, hi]
      omega
  · rw [List.getElem?_eq_none (by rw [List.length_set, hl]; omega), List.getElem?_eq_none (by rw [PE_length]; omega)]
end Go.Proofs.Yteiiifonejkjbaa.Pcs
