/-
  The contract of the closure of rto.Measure.
-/
import Derived.Test.YtljalbcmhcagaaaWay4
namespace Go.Proofs.Ytljalbcmhcagaaa.Way
open Go.RowKit Mem
set_option linter.unusedVariables false

/-- What is reckoned with behind a time there and back: the times, and then the others. -/
def timed (x : Wy) (s v : Int) : Wy := { x with s := s, v := v, r := min (max (s + 4 * v) 4) 64, e := 0 }
def measured (x : Wy) (n : Int) : Wy := if x.s = 0 ∧ x.v = 0 then timed x n (n / 2) else timed x ((7 * x.s + n) / 8) ((3 * x.v + max (x.s - n) (n - x.s)) / 4)

set_option maxRecDepth 100000 in
set_option maxHeartbeats 3200000 in
theorem measure1a (u : World) (g q : Nat) (x : Wy) (n : Int) (h0 : At u g x) (hq : u.cell? ⟨q, 0, none⟩ = some (.int .i64 n)) (hql : q < u.heap.size) (hgq : g ≠ q) (hn : 0 ≤ n ∧ n ≤ 1099511627776) (h1 : x.s = 0) (h2 : x.v = 0) :
    Calls Try.prog 26 #[.pointer (some ⟨g, 0, none⟩), .pointer (some ⟨q, 0, none⟩)] u fun e u' => (∃ v, e = .returned v) ∧ At u' g (timed x n (n / 2)) ∧ u.grownBy u' (some g) := by
  obtain ⟨c0, c1, c2, c3, c4, c5, c6⟩ := h0.cells7
  obtain ⟨z0, z1, z2, z3, z4, z5, z6⟩ := h0.free7
  rw [h1] at c0
  rw [h2] at c1
  clear h1 h2
  have hA := ((h0.set0 (n := n)).set1 (n := n / 2)).drew
  have hG := grown_drew (grown_setCell (j := 1) (v := .int .i64 (n / 2)) (grown_setCell (j := 0) (v := .int .i64 n) (grown_refl u (some g))))
  go_enter Try.func26, Try.ntmps26
  go_wp2_with fail
  go_region
  generalize ((u.setCell { block := g, off := 0 } (Value.int IntKind.i64 n)).setCell { block := g, off := 1 } (Value.int IntKind.i64 (n / 2))).drew = u1 at hA hG ⊢
  clear c0 c1 c2 c3 c4 c5 c6 z0 z1 z2 z3 z4 z5 z6 hq
  obtain ⟨c0, c1, c2, c3, c4, c5, c6⟩ := hA.cells7
  obtain ⟨z0, z1, z2, z3, z4, z5, z6⟩ := hA.free7
  dsimp only at c0 c1 c2 c3 c4 c5 c6
  go_wp2_with fail
  go_region
  all_goals go_wp2
  all_goals
    go_end0
    refine ⟨⟨_, rfl⟩, At.of ((hA.set2).set3).drew ?_, grown_drew (grown_setCell (grown_setCell hG))⟩
    unfold timed
    congr 1 <;> (try simp only [Int.max_def, Int.min_def]) <;> (repeat' split) <;> omega

set_option maxRecDepth 100000 in
set_option maxHeartbeats 3200000 in
theorem measure1b (u : World) (g q : Nat) (x : Wy) (n : Int) (h0 : At u g x) (hq : u.cell? ⟨q, 0, none⟩ = some (.int .i64 n)) (hql : q < u.heap.size) (hgq : g ≠ q) (hn : 0 ≤ n ∧ n ≤ 1099511627776) (hx : okB x = true) (h1 : ¬ (x.s = 0 ∧ x.v = 0)) :
    Calls Try.prog 26 #[.pointer (some ⟨g, 0, none⟩), .pointer (some ⟨q, 0, none⟩)] u fun e u' => (∃ v, e = .returned v) ∧ At u' g (timed x ((7 * x.s + n) / 8) ((3 * x.v + max (x.s - n) (n - x.s)) / 4)) ∧ u.grownBy u' (some g) := by
  have hxx := (okB_iff x).1 hx
  obtain ⟨c0, c1, c2, c3, c4, c5, c6⟩ := h0.cells7
  obtain ⟨z0, z1, z2, z3, z4, z5, z6⟩ := h0.free7
  obtain ⟨V, hV⟩ : ∃ V, (3 * x.v + max (x.s - n) (n - x.s)) / 4 = V := ⟨_, rfl⟩
  obtain ⟨S, hS⟩ : ∃ S, (7 * x.s + n) / 8 = S := ⟨_, rfl⟩
  rw [hV, hS]
  have hv2 : 0 ≤ V ∧ V ≤ 1099511627776 := by rw [← hV]; simp only [Int.max_def]; split <;> omega
  have hs2 : 0 ≤ S ∧ S ≤ 1099511627776 := by omega
  have HV : Hid ((3 * x.v + max (x.s - n) (n - x.s)) / 4 = V) := hV
  have HS : Hid ((7 * x.s + n) / 8 = S) := hS
  clear hV hS
  by_cases hm : x.s - n < n - x.s
  all_goals
    go_enter Try.func26, Try.ntmps26
    go_wp2_with fail
  all_goals
    go_region
    generalize hW : World.drew _ = u1
    have hq1 : u1.cell? ⟨q, 0, none⟩ = some (.int .i64 n) := by rw [← hW, ← hq]; exact World.cell?_of_block (Below.heap_setCell _ _ _ _ (by simpa using Ne.symm hgq))
    obtain ⟨v', hA, hv'⟩ : ∃ v', At u1 g { x with v := v' } ∧ v' = V := ⟨_, by rw [← hW]; exact (h0.set1).drew, by rw [← HV.out]; simp only [Int.max_def]; split <;> omega⟩
    have hG : u.grownBy u1 (some g) := by rw [← hW]; exact grown_drew (grown_setCell (grown_refl _ _))
    subst hv'
    clear hW c0 c1 c2 c3 c4 c5 c6 z0 z1 z2 z3 z4 z5 z6 hq HV hm
    obtain ⟨c0, c1, c2, c3, c4, c5, c6⟩ := hA.cells7
    obtain ⟨z0, z1, z2, z3, z4, z5, z6⟩ := hA.free7
    dsimp only at c0 c1 c2 c3 c4 c5 c6
    go_wp2_with fail
    go_region
    generalize hW : World.drew _ = u2
    obtain ⟨s', hA2, hs'⟩ : ∃ s', At u2 g { x with v := v', s := s' } ∧ s' = S := ⟨_, by rw [← hW]; exact (hA.set0).drew, by have := HS.out; omega⟩
    have hG2 : u.grownBy u2 (some g) := by rw [← hW]; exact grown_drew (grown_setCell hG)
    subst hs'
    clear hW c0 c1 c2 c3 c4 c5 c6 z0 z1 z2 z3 z4 z5 z6 hA hG HS hq1
    obtain ⟨c0, c1, c2, c3, c4, c5, c6⟩ := hA2.cells7
    obtain ⟨z0, z1, z2, z3, z4, z5, z6⟩ := hA2.free7
    dsimp only at c0 c1 c2 c3 c4 c5 c6
    go_wp2_with fail
  all_goals go_region
  all_goals go_wp2
  all_goals
    go_end0
    refine ⟨⟨_, rfl⟩, At.of ((hA2.set2).set3).drew ?_, grown_drew (grown_setCell (grown_setCell hG2))⟩
    unfold timed
    congr 1 <;> (try simp only [Int.max_def, Int.min_def]) <;> (repeat' split) <;> omega
end Go.Proofs.Ytljalbcmhcagaaa.Way
