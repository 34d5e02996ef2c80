/-
  One element goes out of a list of the call's own: the two appends; the reference's box while rows turn (RBz). No walk.
-/
import Derived.Test.YteiiifonejkjbaaRbox2
namespace Go.Proofs.Yteiiifonejkjbaa.Rb
open Go.RowKit Mem Cells Ops Pcs Go.Maps Go.Proofs.Yteiiifonejkjbaa.Open Go.Proofs.Yteiiifonejkjbaa.Bx
set_option linter.unusedVariables false
set_option linter.unusedSimpArgs false

section
variable {w u : World} {S e s bytes q m c k Z : Nat} {i : TypeInfo} {z : Value} {us : List Value}
theorem cut1 (ht : Try.prog.underlying S = some (.slice e)) (hi : Try.prog.info? e = some i) (hz : i.zero = some z) (hs : i.size = s) (hby : i.bytes = bytes) (hzs : z.cells.size = s) (hs0 : 0 < s) (hb64 : bytes ≤ 64)
    (h : w.ownsRow Z e s (.slice (some ⟨q, 0, none⟩) m c) m us) (hu : us.length = m * s) (hone : ∀ v ∈ us, v.oneCell' = true) (hk : k < m) (hm : m ≤ 1000000) (hZ : Z ≤ w.heap.size) :
    ∃ v1 w1, (Builtin.append_ #[S, S] S #[.slice none 0 0, .slice (some ⟨q, 0, none⟩) k c]).run Try.prog w = .ok v1 w1 ∧ Below w.heap.size w w1 ∧ w1.ownsRow Z e s v1 k (us.take (k * s)) ∧ (∀ b, v1.ownBlock = some b → w.heap.size ≤ b) := by
  have hks : k * s ≤ m * s := Nat.mul_le_mul_right _ (by omega)
  obtain ⟨v1, w1, hr, h2, h3, _, h5⟩ := run_append_own_at (P := Try.prog) w Z S S e i z s bytes ht hi hz hs hby hzs hs0 (.slice none 0 0) 0 [] (World.ownsRow_nil _ _ _ _) ⟨q, 0, none⟩ k c (us.take (k * s)) (by rw [List.length_take]; omega) (part_first h k) (fun v hv => hone v (List.mem_of_mem_take hv)) (by simp [maxLen]; omega)
    (by have : (0 + k) * bytes ≤ 1000000 * 64 := Nat.mul_le_mul (by omega) hb64; omega) hZ
  rw [Nat.zero_add, List.nil_append] at h2
  refine ⟨v1, w1, hr, ⟨h3.os, h3.tape, h3.output, h3.size, fun j hj => h3.block j hj (by simp [Value.ownBlock])⟩, h2, fun b hb => ?_⟩
  rcases h5 with h5 | h5
  · rw [h5] at hb; cases hb
  · rw [h5] at hb; have := Option.some.inj hb; omega
theorem cut2 (ht : Try.prog.underlying S = some (.slice e)) (hi : Try.prog.info? e = some i) (hz : i.zero = some z) (hs : i.size = s) (hby : i.bytes = bytes) (hzs : z.cells.size = s) (hs0 : 0 < s) (hb64 : bytes ≤ 64)
    (h : w.ownsRow Z e s (.slice (some ⟨q, 0, none⟩) m c) m us) (hu : us.length = m * s) (hone : ∀ v ∈ us, v.oneCell' = true) (hk : k < m) (hm : m ≤ 1000000) (hZ : Z ≤ w.heap.size)
    (hb : Below w.heap.size w u) {v1 : Value} (h1 : u.ownsRow Z e s v1 k (us.take (k * s))) (hv1 : ∀ b, v1.ownBlock = some b → w.heap.size ≤ b) :
    ∃ A : Addr, sliced (some ⟨q, 0, none⟩) (k + 1) m c s = .slice (some A) (m - (k + 1)) (c - (k + 1)) ∧ ∃ v2 u2, (Builtin.append_ #[S, S] S #[v1, .slice (some A) (m - (k + 1)) (c - (k + 1))]).run Try.prog u = .ok v2 u2 ∧ Below w.heap.size w u2 ∧ u2.ownsRow Z e s v2 (m - 1) (us.take (k * s) ++ us.drop ((k + 1) * s)) ∧ (∀ b, v2.ownBlock = some b → w.heap.size ≤ b) := by
  obtain ⟨A, hA, hcells⟩ := part_rest h k hk hu
  have hat : ∀ cs, At w q e cs → At u q e cs := fun cs hc => hc.ext hb
  have hl : (us.drop ((k + 1) * s)).length = (m - (k + 1)) * s := by rw [List.length_drop, hu, Nat.sub_mul]
  obtain ⟨v2, u2, hr, h2, h3, _, h5⟩ := run_append_own_at (P := Try.prog) u Z S S e i z s bytes ht hi hz hs hby hzs hs0 v1 k (us.take (k * s)) h1 A (m - (k + 1)) (c - (k + 1)) (us.drop ((k + 1) * s)) hl (hcells u hat) (fun v hv => hone v (List.mem_of_mem_drop hv)) (by simp [maxLen]; omega)
    (by have : (k + (m - (k + 1))) * bytes ≤ 1000000 * 64 := Nat.mul_le_mul (by omega) hb64; omega) (Nat.le_trans hZ hb.size)
  refine ⟨A, hA, v2, u2, hr, hb.grown h3 hb.size (fun b e => hv1 b e), by rw [show m - 1 = k + (m - (k + 1)) by omega]; exact h2, fun b hb2 => ?_⟩
  rcases h5 with h5 | h5
  · exact hv1 b (by rw [← h5]; exact hb2)
  · rw [h5] at hb2; have := Option.some.inj hb2; have := hb.size; omega
end

/-- The reference's box; where its rows lay at the start. -/
structure RBz (Z : Nat) (W0 w : World) (g : Nat) (vh vt : Value) (x : S) (zs : List (A × Value)) (ys : List (T × Value)) : Prop where
  row : At w g 56 (rbA vh vt x.next)
  h1 : zs.map Prod.fst = x.held
  h2 : w.ownsRow Z 45 7 vh x.held.length (flat zs)
  h3 : ∀ z ∈ zs, Row .u8 5 Z W0 z.2 z.1.data
  t1 : ys.map Prod.fst = x.wait
  t2 : w.ownsRow Z 85 3 vt x.wait.length (flatT ys)
  t3 : ∀ z ∈ ys, Row .u8 5 Z W0 z.2 z.1.data
  le : Z ≤ g
  ok : x.ok
section
variable {W0 w w1 : World} {Z g : Nat} {vh vt : Value} {x : S} {zs : List (A × Value)} {ys : List (T × Value)}
theorem RB.z (h : RB Z W0 g vh vt x) : ∃ zs ys, RBz Z W0 W0 g vh vt x zs ys := by
  obtain ⟨zs, a1, a2, a3⟩ := h.held
  obtain ⟨ys, b1, b2, b3⟩ := h.wait
  exact ⟨zs, ys, h.row, a1, a2, a3, b1, b2, b3, h.le, h.ok⟩
theorem RBz.rb (h : RBz Z W0 w g vh vt x zs ys) (hb : ButX (RX Z W0) W0 w) : RB Z w g vh vt x :=
  ⟨h.row, ⟨zs, h.h1, h.h2, fun z hz => row_butR (h.h3 z hz) hb⟩, ⟨ys, h.t1, h.t2, fun z hz => row_butR (h.t3 z hz) hb⟩, h.le, h.ok⟩
/-- A block of another kind turns. -/
theorem RBz.other (h : RBz Z W0 w g vh vt x zs ys) {q T : Nat} {cs : Array Value} (hg : w.grownBy w1 (some q)) (hat : At w q T cs) (hT : ¬ RT T) : RBz Z W0 w1 g vh vt x zs ys := by
  have a1 : T ≠ 56 := fun e => hT (.inl e)
  have a2 : T ≠ 45 := fun e => hT (.inr (.inl e))
  have a3 : T ≠ 85 := fun e => hT (.inr (.inr e))
  exact ⟨h.row.kept' hg (fun e => at_ne hat h.row a1 (Option.some.inj e)), h.h1, h.h2.kept hg (.inr (own_ne h.h2 hat (fun e => a2 e.symm))), h.h3, h.t1, h.t2.kept hg (.inr (own_ne h.t2 hat (fun e => a3 e.symm))), h.t3, h.le, h.ok⟩
theorem RBz.below (h : RBz Z W0 w g vh vt x zs ys) (hb : Below w.heap.size w w1) : RBz Z W0 w1 g vh vt x zs ys :=
  ⟨h.row.ext hb, h.h1, h.h2.kept (grown_below none hb) (by cases vh.ownBlock <;> simp), h.h3, h.t1, h.t2.kept (grown_below none hb) (by cases vt.ownBlock <;> simp), h.t3, h.le, h.ok⟩
theorem RBz.grow (h : RBz Z W0 w g vh vt x zs ys) {B e k n : Nat} {v : Value} {us : List Value} (hg : w.grownBy w1 v.ownBlock) (ho : w.ownsRow B e k v n us) (hT : ¬ RT e) : RBz Z W0 w1 g vh vt x zs ys := by
  cases hv : v.ownBlock with
  | none =>
    rw [hv] at hg
    exact h.below ⟨hg.os, hg.tape, hg.output, hg.size, fun i hi => hg.block i hi (by simp)⟩
  | some q =>
    obtain ⟨cur, hc⟩ := own_at ho hv
    rw [hv] at hg
    exact h.other hg hc hT
theorem rx_grow (h : ButX (RX Z W0) W0 w) {B e k n : Nat} {v : Value} {us : List Value} (hg : w.grownBy w1 v.ownBlock) (ho : w.ownsRow B e k v n us) (hB : W0.heap.size ≤ B) : ButX (RX Z W0) W0 w1 :=
  butX_grown h hg (fun q e => .inr (Nat.le_trans hB (ho.lt q e).1))
theorem S.ok_rm (h : x.ok) (t : Int) : S.ok { x with held := rm x.held t } := by
  obtain ⟨⟨h1, h2, h3⟩, h4⟩ := h
  refine ⟨⟨Nat.le_trans (List.length_filter_le _ _) h1, (List.Sublist.map _ (List.filter_sublist (l := x.held))).nodup h2, fun z hz => h3 z (List.mem_filter.1 hz).1⟩, h4⟩
theorem map_cut {α β : Type} (f : α → β) (zs : List α) (k : Nat) : (zs.take k ++ zs.drop (k + 1)).map f = (zs.map f).take k ++ (zs.map f).drop (k + 1) := by
  rw [List.map_append, List.map_take, List.map_drop]
theorem mem_cut {α : Type} {zs : List α} {k : Nat} {z : α} (h : z ∈ zs.take k ++ zs.drop (k + 1)) : z ∈ zs := (List.mem_append.1 h).elim List.mem_of_mem_take List.mem_of_mem_drop
/-- A piece goes out: the box with the new list in its cell. -/
theorem RBz.dropH (h : RBz Z W0 w g vh vt x zs ys) {k : Nat} {a : A} (hk : x.held[k]? = some a) {v2 : Value} (hb : Below w.heap.size w w1) (ho : w1.ownsRow Z 45 7 v2 (x.held.length - 1) ((flat zs).take (k * 7) ++ (flat zs).drop ((k + 1) * 7))) {w2 : World} (hg : w1.grownBy w2 (some g)) (hat : At w2 g 56 (rbA v2 vt x.next)) :
    RBz Z W0 w2 g v2 vt { x with held := rm x.held a.tsn } (zs.take k ++ zs.drop (k + 1)) ys := by
  have hrm := rm_at h.ok.1.2.1 hk
  have hl : (rm x.held a.tsn).length = x.held.length - 1 := by
    have hkl := (List.getElem?_eq_some_iff.1 hk).1
    rw [hrm, List.length_append, List.length_take, List.length_drop]
    omega
  have hrow := h.row.ext hb
  have ht := h.t2.kept (grown_below none hb) (by cases vt.ownBlock <;> simp)
  refine ⟨hat, ?_, ?_, fun z hz => h.h3 z (mem_cut hz), h.t1, ht.kept hg (.inr (own_ne ht hrow (by decide))), h.t3, h.le, S.ok_rm h.ok _⟩
  · rw [map_cut, h.h1]; exact hrm.symm
  · show w2.ownsRow Z 45 7 v2 (rm x.held a.tsn).length _
    rw [hl, flat_append, flat_take, flat_drop]
    exact ho.kept hg (.inr (own_ne ho hrow (by decide)))
theorem take_all {h : List A} {t : Int} {n i : Nat} {acc : List Int} {a : A} {R : List A × List Int} (hi : i < n) (hn : n ≤ 512) (hR : R = takeF (n - i) h (stp t (i : Int)) acc) (ha : getH h (stp t (i : Int)) = some a) (hat : a.tsn = stp t (i : Int)) :
    R = takeF (n - (i + 1)) (rm h a.tsn) (stp t ((i + 1 : Nat) : Int)) (acc ++ a.data) := by
  rw [hR, show n - i = (n - (i + 1)) + 1 by omega, take_more ha, nxt_stp, hat]
  rfl
theorem take_pres {h : List A} {t : Int} {n i : Nat} {a : A} (hn : n ≤ 512) (hp : ∀ k : Nat, i ≤ k → k < n → (getH h (stp t (k : Int))).isSome = true) (hat : a.tsn = stp t (i : Int)) : ∀ k : Nat, i + 1 ≤ k → k < n → (getH (rm h a.tsn) (stp t (k : Int))).isSome = true := by
  intro k hk1 hk2
  rw [getH_rm_other _ (by rw [hat]; intro e; have := stp_inj e (by omega) (by omega); omega)]
  exact hp k (by omega) hk2
end
end Go.Proofs.Yteiiifonejkjbaa.Rb
