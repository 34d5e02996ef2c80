/-
  Contracts: rto.Measure, by its closure.
-/
import Derived.Test.YtljalbcmhcagaaaWay6
import Derived.Test.YtljalbcmhcagaaaMonoG
namespace Go.Proofs.Ytljalbcmhcagaaa.Way
open Go.RowKit Mem
set_option linter.unusedVariables false
attribute [local simp] MonoG.DepFacts MonoG.want MonoG.isV MonoG.Fin Act.eval Act.put Region.binds

theorem measure1 (u : World) (g q : Nat) (x : Wy) (n : Int) (h0 : At u g x) (hq : u.cell? ⟨q, 0, none⟩ = some (.int .i64 n)) (hql : q < u.heap.size) (hgq : g ≠ q) (hn : 0 ≤ n ∧ n ≤ 1099511627776) (hx : okB x = true) :
    Calls Try.prog 26 #[.pointer (some ⟨g, 0, none⟩), .pointer (some ⟨q, 0, none⟩)] u fun e u' => (∃ v, e = .returned v) ∧ At u' g (measured x n) ∧ u.grownBy u' (some g) := by
  unfold measured
  by_cases h : x.s = 0 ∧ x.v = 0
  · rw [if_pos h]; exact measure1a u g q x n h0 hq hql hgq hn h.1 h.2
  · rw [if_neg h]; exact measure1b u g q x n h0 hq hql hgq hn hx h

set_option maxRecDepth 100000 in
set_option maxHeartbeats 1600000 in
theorem changed26 (x : Wy) (q : Nat) (n : Int) (w : World) (hx : okB x = true) (hq : w.cell? ⟨q, 0, none⟩ = some (.int .i64 n)) (hql : q < w.heap.size) (hn : 0 ≤ n ∧ n ≤ 1099511627776) : Calls Try.prog 24 #[.agg (cells x), .bool true, .func (.func 26) #[] #[.pointer (some ⟨q, 0, none⟩)]] w fun e w' => e = .returned (.tuple #[.agg (cells (measured x n)), .int .i64 0]) ∧ Below w.heap.size w w' := by
  have hb : Below w.heap.size w ((w.alloc (.cells (cells x) 23)).alloc (.cells (cells none7) 23)) := ((Below.refl _ _).alloc (Nat.le_refl _) _).alloc (by simp) _
  have ha := (At.new w x).alloc (.cells (cells none7) 23)
  have hn := At.new (w.alloc (.cells (cells x) 23)) none7
  rw [show (w.alloc (.cells (cells x) 23)).heap.size = w.heap.size + 1 from by simp] at hn
  have hs : ((w.alloc (.cells (cells x) 23)).alloc (.cells (cells none7) 23)).heap.size = w.heap.size + 2 := by simp
  go_enter Try.func24, Try.ntmps24
  go_wp2_with fail
  refine (sound _ _).mono ?_
  rintro e w1 ⟨rfl, b1⟩
  rw [hx]
  replace b1 : Below ((w.alloc (.cells (cells x) 23)).alloc (.cells (cells none7) 23)).heap.size ((w.alloc (.cells (cells x) 23)).alloc (.cells (cells none7) 23)) w1 := b1
  rw [hs] at b1
  have h1 := ha.below b1 (by omega)
  have h2 := hn.below b1 (by omega)
  have hw : w.heap.size + 2 ≤ w1.heap.size := by have := b1.size; omega
  have hb1 := hb.trans (b1.mono (by omega))
  have hq1 : w1.cell? ⟨q, 0, none⟩ = some (.int .i64 n) := (hb1.cell (p := ⟨q, 0, none⟩) hql).trans hq
  clear hb ha hn b1
  go_wp2_with fail
  refine (measure1 _ _ q x n h1 hq1 (by omega) (by omega) hn hx).mono ?_
  rintro e u ⟨⟨v, rfl⟩, h3, g3⟩
  have h4 := h2.grown g3 (by omega)
  have hb3 := below_grown hb1 g3 (by omega) (Nat.le_refl _)
  clear h1 h2 g3 hb1
  go_wp2_with (first | (refine wpList_load_row rfl 23 _ rfl w.heap.size rfl 23 _ _ _ h3 Try.underlying23 rfl (by kernel_rfl) ?_) | (refine wpList_store_row rfl 23 _ _ rfl (w.heap.size + 1) (cells (measured x n)) rfl rfl 23 _ h4 (by kernel_rfl) rfl (cells_one _) ?_))
  exact end_way (p := 6) (u := 7) (c := .int .i64 0) (by kernel_rfl) rfl h4.row rfl rfl ⟨rfl, below_setRow hb3 (by omega) _⟩

def measureW (x : Wy) (n : Int) : Wy := if okB x then if inB n 0 1099511627776 then measured x n else none7 else none7
def measureE (x : Wy) (n : Int) : Int := if okB x then if inB n 0 1099511627776 then 0 else 1 else 2
/-- What 'changed' does with the closure of Measure, in all cases. -/
theorem changedM (x : Wy) (q : Nat) (n : Int) (w : World) (hq : w.cell? ⟨q, 0, none⟩ = some (.int .i64 n)) (hql : q < w.heap.size) :
    Calls Try.prog 24 #[.agg (cells x), .bool (inB n 0 1099511627776), .func (.func 26) #[] #[.pointer (some ⟨q, 0, none⟩)]] w fun e w' => e = .returned (.tuple #[.agg (cells (measureW x n)), .int .i64 (measureE x n)]) ∧ Below w.heap.size w w' := by
  unfold measureW measureE
  cases hx : okB x with
  | false => exact changedBad x _ _ w hx
  | true =>
    cases hi : inB n 0 1099511627776 with
    | false => exact changedArg x _ w hx
    | true => exact changed26 x q n w hx hq hql (by unfold inB at hi; exact of_decide_eq_true hi)

/-- What 'return changed(..)' does to the world: the result's block holds a path as ever; if it holds the answer, it goes on holding it; all else is as it was. -/
def StaysW (g : Nat) (Y : Wy) (a b : World) : Prop := a.grownBy b (some g) ∧ ((∃ x, At a g x) → ∃ y, At b g y) ∧ (At a g Y → At b g Y)
theorem stays_refl (g : Nat) (Y : Wy) (a : World) : StaysW g Y a a := ⟨grown_refl _ _, id, id⟩
def relW (g : Nat) (Y : Wy) : MonoG.Rel where
  R := StaysW g Y
  refl w := stays_refl _ _ _
  drew w := ⟨grown_drew (grown_refl _ _), id, id⟩
  trans a b c h k := ⟨grown_trans h.1 k.1, fun x => k.2.1 (h.2.1 x), fun x => k.2.2 (h.2.2 x)⟩
def atP (g : Nat) (Y : Wy) : MonoG.Prp (relW g Y) := ⟨fun _ w => At w g Y, fun _ _ _ h hr => hr.2.2 h⟩
theorem relW_below {g : Nat} {Y : Wy} {a b : World} (h : Below a.heap.size a b) (hg : g < a.heap.size) : StaysW g Y a b :=
  ⟨⟨h.os, h.tape, h.output, h.size, fun k hk _ => h.block k hk⟩, fun ⟨x, hx⟩ => ⟨x, hx.below h hg⟩, fun hx => hx.below h hg⟩
theorem relW_row {g : Nat} {Y x : Wy} {a : World} (h : At a g x) : StaysW g Y a (a.setRow g (cells Y)) :=
  ⟨⟨rfl, rfl, rfl, by simp, fun k _ hn => setRow_other _ _ _ _ (fun e => hn (by rw [e]))⟩, fun _ => ⟨Y, h.row⟩, fun _ => h.row⟩

set_option maxRecDepth 100000 in
set_option maxHeartbeats 3200000 in
theorem measure (x : Wy) (n : Int) (w : World) : Calls Try.prog 9 #[.agg (cells x), .int .i64 n] w fun e w' => e = .returned (.tuple #[.agg (cells (measureW x n)), .int .i64 (measureE x n)]) ∧ Below w.heap.size w w' := by
  obtain ⟨W0, hW0⟩ : ∃ W0, W0 = ((w.alloc (.cells (cells x) 23)).alloc (.cells #[.int .i64 n] 3)).alloc (.cells (cells none7) 23) := ⟨_, rfl⟩
  have hsz : W0.heap.size = w.heap.size + 3 := by rw [hW0]; simp
  have hb0 : Below w.heap.size w W0 := by rw [hW0]; exact (((Below.refl _ _).alloc (Nat.le_refl _) _).alloc (by simp) _).alloc (by simp; omega) _
  have hn0 : At W0 (w.heap.size + 1 + 1) none7 := by
    rw [hW0]
    have := At.new ((w.alloc (.cells (cells x) 23)).alloc (.cells #[.int .i64 n] 3)) none7
    rwa [show ((w.alloc (.cells (cells x) 23)).alloc (.cells #[.int .i64 n] 3)).heap.size = w.heap.size + 1 + 1 from by simp] at this
  have hx0 : At W0 w.heap.size x := by rw [hW0]; exact ((At.new w x).alloc _).alloc _
  have hq0 : W0.heap[w.heap.size + 1]? = some (.cells #[.int .i64 n] 3 (0, 0)) := by
    rw [hW0, Below.heap_alloc _ _ _ (by simp)]
    have : (w.alloc (.cells (cells x) 23)).heap.size = w.heap.size + 1 := by simp
    rw [← this]; exact Array.getElem?_push_size
  have hl0 : w.heap.size + 1 < W0.heap.size := by omega
  go_enter Try.func9, Try.ntmps9
  go_wp2_with fail
  replace hW0 : W0 = ((w.alloc (.cells (cells x) 23)).alloc (.cells #[.int .i64 n] 3)).alloc (.cells #[.int .i64 0, .int .i64 0, .int .i64 0, .int .i64 0, .int .i64 0, .int .i64 0, .int .i64 0] 23) := hW0
  rw [← hW0]
  clear hW0
  have keyx : ∀ u, StaysW (w.heap.size + 1 + 1) (measureW x n) W0 u → At u w.heap.size x := fun u h => hx0.grown h.1 (by omega)
  have keyq : ∀ u, StaysW (w.heap.size + 1 + 1) (measureW x n) W0 u → u.cell? ⟨w.heap.size + 1, 0, none⟩ = some (.int .i64 n) := fun u h => by
    rw [cell_of_row u (w.heap.size + 1) 0 _ 3 (0, 0) ((h.1.block _ hl0 (by simp)).trans hq0)]; rfl
  have keyg : ∀ u, StaysW (w.heap.size + 1 + 1) (measureW x n) W0 u → ∃ y, At u (w.heap.size + 1 + 1) y := fun u h => h.2.1 ⟨_, hn0⟩
  have keys : ∀ u, StaysW (w.heap.size + 1 + 1) (measureW x n) W0 u → w.heap.size + 3 ≤ u.heap.size := fun u h => by have := h.1.size; omega
  refine MonoG.wp_region_mono (L := relW (w.heap.size + 1 + 1) (measureW x n)) [some 6, some 7, some 8, some 9, some 10, some 11, some 12, none, some 5]
    [MonoG.isV (.agg (cells x)), MonoG.isV (.int .i64 n), MonoG.isV (.bool (inB n 0 1099511627776)), MonoG.isV (.func (.func 26) #[] #[.pointer (some ⟨w.heap.size + 1, 0, none⟩)]), MonoG.isV (.tuple #[.agg (cells (measureW x n)), .int .i64 (measureE x n)]), MonoG.isV (.agg (cells (measureW x n))), MonoG.isV (.int .i64 (measureE x n)), atP _ _, MonoG.isV (.int .i64 (measureE x n))]
    (by kernel_rfl) (by kernel_rfl) ?_ ?_
  · simp only [MonoG.OpGoals, and_true]
    refine ⟨?_, ?_, ?_, ?_, ?_, ?_, ?_, ?_, ?_⟩
    all_goals
      intro a u hL hs hd
      have hxu := keyx u hL
      have hqu := keyq u hL
      have hsu := keys u hL
      obtain ⟨y, hyu⟩ := keyg u hL
      have e2 : a.eval (.tmp 2) = .pointer (some ⟨w.heap.size, 0, none⟩) := hs 2 (by decide)
      have e3 : a.eval (.tmp 3) = .pointer (some ⟨w.heap.size + 1, 0, none⟩) := hs 3 (by decide)
      have e4 : a.eval (.tmp 4) = .pointer (some ⟨w.heap.size + 1 + 1, 0, none⟩) := hs 4 (by decide)
      clear hs
      simp only [MonoG.want, if_true]
    · exact wp_load_row 23 (.tmp 2) rfl w.heap.size e2 23 _ _ _ hxu Try.underlying23 rfl (by kernel_rfl) ⟨_, rfl, (relW _ _).refl _, rfl⟩
    · simp at e3; simp [*]; go_wp2; exact stays_refl _ _ _
    · simp at hd; simp [*]; go_wp2_with fail; refine (inn _ _ _ _).mono ?_; rintro e w1 ⟨rfl, rfl⟩; exact ⟨rfl, stays_refl _ _ _⟩
    · simp at e3; simp [*]; go_wp2; exact stays_refl _ _ _
    · simp at hd; simp [*]; go_wp2_with fail; refine (changedM x _ n _ hqu (by omega)).mono ?_; rintro e w2 ⟨rfl, b2⟩; exact ⟨rfl, relW_below b2 (show w.heap.size + 1 + 1 < u.heap.size by omega)⟩
    · simp at hd; simp [*]; go_wp2; exact stays_refl _ _ _
    · simp at hd; simp [*]; go_wp2; exact stays_refl _ _ _
    · have h11 : a.eval (.tmp 11) = .agg (cells (measureW x n)) := by simp at hd; simp [*]
      exact wp_store_row 23 (.tmp 4) (.tmp 11) rfl (w.heap.size + 1 + 1) _ e4 h11 23 _ hyu (by kernel_rfl) rfl (cells_one _) ⟨_, rfl, relW_row hyu, hyu.row⟩
    · simp at hd; simp [*]; go_wp2; exact stays_refl _ _ _
  · intro u hu
    have hb1 := below_grown hb0 hu.1 (by omega) (show w.heap.size ≤ w.heap.size + 1 + 1 by omega)
    clear keyx keyq keyg keys hn0 hx0 hq0 hb0
    simp
    intro _ h2
    replace h2 : At u (w.heap.size + 1 + 1) (measureW x n) := h2
    go_wp2_with fail
    exact end_way (p := 4) (u := 5) (c := .int .i64 (measureE x n)) (by kernel_rfl) rfl h2 rfl rfl ⟨rfl, hb1⟩
end Go.Proofs.Ytljalbcmhcagaaa.Way
