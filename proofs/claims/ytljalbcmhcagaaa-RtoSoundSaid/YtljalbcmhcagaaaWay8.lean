/-
  Contracts: the closure of rto.Acked; 'changed' with it.
-/
import Derived.Test.YtljalbcmhcagaaaPlain
import Derived.Test.YtljalbcmhcagaaaWay7
namespace Go.Proofs.Ytljalbcmhcagaaa.Way
open Go.RowKit Mem
set_option linter.unusedVariables false
set_option linter.unusedSimpArgs false
attribute [local simp] MonoG.DepFacts MonoG.want MonoG.isV MonoG.Fin Act.eval Act.put Region.binds

theorem acked1n0 (u : World) (g q p : Nat) (x : Wy) (full : Bool) (h0 : At u g x) (hq : u.cell? ⟨q, 0, none⟩ = some (.int .i64 0)) (hp : u.cell? ⟨p, 0, none⟩ = some (.bool full)) :
    Calls Try.prog 30 #[.pointer (some ⟨g, 0, none⟩), .pointer (some ⟨q, 0, none⟩), .pointer (some ⟨p, 0, none⟩)] u fun e u' => (∃ v, e = .returned v) ∧ At u' g x ∧ u.grownBy u' (some g) := by
  go_enter Try.func30, Try.ntmps30
  go_wp2_with fail
  (try simp only [Exit.inBlock, Exit.then]); refine bodyPost_ret (results_none rfl _ _ _) rfl ?_
  exact ⟨⟨_, rfl⟩, h0, grown_refl _ _⟩
theorem acked1n1 (u : World) (g q p : Nat) (x : Wy) (n : Int) (h0 : At u g x) (hq : u.cell? ⟨q, 0, none⟩ = some (.int .i64 n)) (hb : (n == 0) = false) (hp : u.cell? ⟨p, 0, none⟩ = some (.bool false)) :
    Calls Try.prog 30 #[.pointer (some ⟨g, 0, none⟩), .pointer (some ⟨q, 0, none⟩), .pointer (some ⟨p, 0, none⟩)] u fun e u' => (∃ v, e = .returned v) ∧ At u' g x ∧ u.grownBy u' (some g) := by
  go_enter Try.func30, Try.ntmps30
  go_wp2_with fail
  (try simp only [Exit.inBlock, Exit.then]); refine bodyPost_ret (results_none rfl _ _ _) rfl ?_
  exact ⟨⟨_, rfl⟩, h0, grown_refl _ _⟩
theorem acked1n (u : World) (g q p : Nat) (x : Wy) (n : Int) (full : Bool) (h0 : At u g x) (hq : u.cell? ⟨q, 0, none⟩ = some (.int .i64 n)) (hp : u.cell? ⟨p, 0, none⟩ = some (.bool full)) (hql : q < u.heap.size) (hpl : p < u.heap.size) (hgq : g ≠ q) (hgp : g ≠ p) (hn : 0 ≤ n ∧ n ≤ 65536) (hx : okB x = true) (hz : n = 0 ∨ full = false) :
    Calls Try.prog 30 #[.pointer (some ⟨g, 0, none⟩), .pointer (some ⟨q, 0, none⟩), .pointer (some ⟨p, 0, none⟩)] u fun e u' => (∃ v, e = .returned v) ∧ At u' g x ∧ u.grownBy u' (some g) := by
  by_cases h : n = 0
  · subst h; exact acked1n0 u g q p x full h0 hq hp
  · obtain rfl : full = false := by simpa [h] using hz
    exact acked1n1 u g q p x n h0 hq (by simp [h]) hp

set_option maxRecDepth 100000 in
set_option maxHeartbeats 3200000 in
theorem acked1c (u : World) (g q p : Nat) (x : Wy) (n : Int) (full : Bool) (h0 : At u g x) (hq : u.cell? ⟨q, 0, none⟩ = some (.int .i64 n)) (hp : u.cell? ⟨p, 0, none⟩ = some (.bool full)) (hql : q < u.heap.size) (hpl : p < u.heap.size) (hgq : g ≠ q) (hgp : g ≠ p) (hn : 0 ≤ n ∧ n ≤ 65536) (hx : okB x = true) (hz : n ≠ 0) (hf : full = true) (hc : x.c ≤ x.h) :
    Calls Try.prog 30 #[.pointer (some ⟨g, 0, none⟩), .pointer (some ⟨q, 0, none⟩), .pointer (some ⟨p, 0, none⟩)] u fun e u' => (∃ v, e = .returned v) ∧ At u' g { x with c := min (x.c + min n 512) 65536 } ∧ u.grownBy u' (some g) := by
  have hb : (n == 0) = false := by simp [hz]
  subst hf
  have hxx := (okB_iff x).1 hx
  obtain ⟨c0, c1, c2, c3, c4, c5, c6⟩ := h0.cells7
  obtain ⟨z0, z1, z2, z3, z4, z5, z6⟩ := h0.free7
  go_enter Try.func30, Try.ntmps30
  go_wp2_with fail
  go_region
  go_wp2_with fail
  go_region
  generalize hW : World.drew _ = u1
  obtain ⟨c', hA, hv'⟩ : ∃ c', At u1 g { x with c := c' } ∧ c' = x.c + min n 512 := ⟨_, by rw [← hW]; exact (h0.set4).drew, by first | rfl | (simp only [Int.max_def, Int.min_def]; (repeat' split) <;> omega)⟩
  have hq1 : u1.cell? ⟨q, 0, none⟩ = some (.int .i64 n) := by rw [← hW, ← hq]; exact World.cell?_of_block (Below.heap_setCell _ _ _ _ (by simpa using Ne.symm hgq))
  have hG : u.grownBy u1 (some g) := by rw [← hW]; repeat (first | exact grown_refl _ _ | apply grown_drew | apply grown_setCell)
  subst hv'
  clear hW c0 c1 c2 c3 c4 c5 c6 z0 z1 z2 z3 z4 z5 z6 hq
  obtain ⟨c0, c1, c2, c3, c4, c5, c6⟩ := hA.cells7
  obtain ⟨z0, z1, z2, z3, z4, z5, z6⟩ := hA.free7
  dsimp only at c0 c1 c2 c3 c4 c5 c6
  go_wp2
  all_goals
    go_end0
    refine ⟨⟨_, rfl⟩, At.of hA.set4 ?_, grown_setCell hG⟩
    congr 1 <;> (try simp only [Int.max_def, Int.min_def]) <;> (repeat' split) <;> omega

set_option maxRecDepth 100000 in
set_option maxHeartbeats 3200000 in
theorem acked1d (u : World) (g q p : Nat) (x : Wy) (n : Int) (full : Bool) (h0 : At u g x) (hq : u.cell? ⟨q, 0, none⟩ = some (.int .i64 n)) (hp : u.cell? ⟨p, 0, none⟩ = some (.bool full)) (hql : q < u.heap.size) (hpl : p < u.heap.size) (hgq : g ≠ q) (hgp : g ≠ p) (hn : 0 ≤ n ∧ n ≤ 65536) (hx : okB x = true) (hz : n ≠ 0) (hf : full = true) (hc : ¬ x.c ≤ x.h) (hd : min (x.a + n) 65536 ≥ x.c) :
    Calls Try.prog 30 #[.pointer (some ⟨g, 0, none⟩), .pointer (some ⟨q, 0, none⟩), .pointer (some ⟨p, 0, none⟩)] u fun e u' => (∃ v, e = .returned v) ∧ At u' g { x with a := 0, c := min (x.c + 512) 65536 } ∧ u.grownBy u' (some g) := by
  have hb : (n == 0) = false := by simp [hz]
  subst hf
  have hxx := (okB_iff x).1 hx
  obtain ⟨c0, c1, c2, c3, c4, c5, c6⟩ := h0.cells7
  obtain ⟨z0, z1, z2, z3, z4, z5, z6⟩ := h0.free7
  by_cases hm : 65536 < x.a + n
  all_goals
    go_enter Try.func30, Try.ntmps30
    go_wp2_with fail
    go_region
    go_wp2_with fail
    go_region
    generalize hW : World.drew _ = u1
    obtain ⟨a', hA, hv'⟩ : ∃ a', At u1 g { x with a := a' } ∧ a' = min (x.a + n) 65536 := ⟨_, by rw [← hW]; exact (h0.set6).drew, by first | rfl | (simp only [Int.max_def, Int.min_def]; (repeat' split) <;> omega)⟩
    have hq1 : u1.cell? ⟨q, 0, none⟩ = some (.int .i64 n) := by rw [← hW, ← hq]; exact World.cell?_of_block (Below.heap_setCell _ _ _ _ (by simpa using Ne.symm hgq))
    have hG : u.grownBy u1 (some g) := by rw [← hW]; repeat (first | exact grown_refl _ _ | apply grown_drew | apply grown_setCell)
    subst hv'
    clear hW c0 c1 c2 c3 c4 c5 c6 z0 z1 z2 z3 z4 z5 z6 hq
    obtain ⟨c0, c1, c2, c3, c4, c5, c6⟩ := hA.cells7
    obtain ⟨z0, z1, z2, z3, z4, z5, z6⟩ := hA.free7
    dsimp only at c0 c1 c2 c3 c4 c5 c6
    go_wp2_with fail
    go_region
    go_wp2
    all_goals
      go_end0
      refine ⟨⟨_, rfl⟩, At.of hA.drew.set6.set4.set4 ?_, grown_setCell (grown_setCell (grown_setCell (grown_drew hG)))⟩
      congr 1 <;> (try simp only [Int.max_def, Int.min_def]) <;> (repeat' split) <;> omega

set_option maxRecDepth 100000 in
set_option maxHeartbeats 3200000 in
theorem acked1e (u : World) (g q p : Nat) (x : Wy) (n : Int) (full : Bool) (h0 : At u g x) (hq : u.cell? ⟨q, 0, none⟩ = some (.int .i64 n)) (hp : u.cell? ⟨p, 0, none⟩ = some (.bool full)) (hql : q < u.heap.size) (hpl : p < u.heap.size) (hgq : g ≠ q) (hgp : g ≠ p) (hn : 0 ≤ n ∧ n ≤ 65536) (hx : okB x = true) (hz : n ≠ 0) (hf : full = true) (hc : ¬ x.c ≤ x.h) (hd : ¬ min (x.a + n) 65536 ≥ x.c) :
    Calls Try.prog 30 #[.pointer (some ⟨g, 0, none⟩), .pointer (some ⟨q, 0, none⟩), .pointer (some ⟨p, 0, none⟩)] u fun e u' => (∃ v, e = .returned v) ∧ At u' g { x with a := min (x.a + n) 65536, c := min x.c 65536 } ∧ u.grownBy u' (some g) := by
  have hb : (n == 0) = false := by simp [hz]
  subst hf
  have hxx := (okB_iff x).1 hx
  obtain ⟨c0, c1, c2, c3, c4, c5, c6⟩ := h0.cells7
  obtain ⟨z0, z1, z2, z3, z4, z5, z6⟩ := h0.free7
  have hm : ¬ 65536 < x.a + n := by rw [Int.min_def] at hd; split at hd <;> omega
  go_enter Try.func30, Try.ntmps30
  go_wp2_with fail
  go_region
  go_wp2_with fail
  go_region
  generalize hW : World.drew _ = u1
  obtain ⟨a', hA, hv'⟩ : ∃ a', At u1 g { x with a := a' } ∧ a' = min (x.a + n) 65536 := ⟨_, by rw [← hW]; exact (h0.set6).drew, by first | rfl | (simp only [Int.max_def, Int.min_def]; (repeat' split) <;> omega)⟩
  have hq1 : u1.cell? ⟨q, 0, none⟩ = some (.int .i64 n) := by rw [← hW, ← hq]; exact World.cell?_of_block (Below.heap_setCell _ _ _ _ (by simpa using Ne.symm hgq))
  have hG : u.grownBy u1 (some g) := by rw [← hW]; repeat (first | exact grown_refl _ _ | apply grown_drew | apply grown_setCell)
  subst hv'
  clear hW c0 c1 c2 c3 c4 c5 c6 z0 z1 z2 z3 z4 z5 z6 hq
  obtain ⟨c0, c1, c2, c3, c4, c5, c6⟩ := hA.cells7
  obtain ⟨z0, z1, z2, z3, z4, z5, z6⟩ := hA.free7
  dsimp only at c0 c1 c2 c3 c4 c5 c6
  go_wp2_with fail
  go_region
  go_wp2
  all_goals
    go_end0
    refine ⟨⟨_, rfl⟩, At.of hA.drew.set4 ?_, grown_setCell (grown_drew hG)⟩
    congr 1 <;> (try simp only [Int.max_def, Int.min_def]) <;> (repeat' split) <;> omega

theorem acked1 (u : World) (g q p : Nat) (x : Wy) (n : Int) (full : Bool) (h0 : At u g x) (hq : u.cell? ⟨q, 0, none⟩ = some (.int .i64 n)) (hp : u.cell? ⟨p, 0, none⟩ = some (.bool full)) (hql : q < u.heap.size) (hpl : p < u.heap.size) (hgq : g ≠ q) (hgp : g ≠ p) (hn : 0 ≤ n ∧ n ≤ 65536) (hx : okB x = true) :
    Calls Try.prog 30 #[.pointer (some ⟨g, 0, none⟩), .pointer (some ⟨q, 0, none⟩), .pointer (some ⟨p, 0, none⟩)] u fun e u' => (∃ v, e = .returned v) ∧ At u' g (ackedF x n full) ∧ u.grownBy u' (some g) := by
  unfold ackedF
  by_cases hz : n = 0 ∨ full = false
  · rw [if_pos hz]; exact acked1n u g q p x n full h0 hq hp hql hpl hgq hgp hn hx hz
  · rw [if_neg hz]
    have h1 : n ≠ 0 := fun h => hz (.inl h)
    have h2 : full = true := by cases full <;> simp_all
    by_cases hc : x.c ≤ x.h
    · rw [if_pos hc]; exact acked1c u g q p x n full h0 hq hp hql hpl hgq hgp hn hx h1 h2 hc
    · rw [if_neg hc]
      by_cases hd : min (x.a + n) 65536 ≥ x.c
      · rw [if_pos hd]; exact acked1d u g q p x n full h0 hq hp hql hpl hgq hgp hn hx h1 h2 hc hd
      · rw [if_neg hd]; exact acked1e u g q p x n full h0 hq hp hql hpl hgq hgp hn hx h1 h2 hc hd

def ackedW (x : Wy) (n : Int) (full : Bool) : Wy := if okB x then if inB n 0 65536 then ackedF x n full else none7 else none7
def ackedE (x : Wy) (n : Int) : Int := if okB x then if inB n 0 65536 then 0 else 1 else 2

set_option maxRecDepth 100000 in
set_option maxHeartbeats 1600000 in
theorem changed30 (x : Wy) (q p : Nat) (n : Int) (full : Bool) (w : World) (hx : okB x = true) (hq : w.cell? ⟨q, 0, none⟩ = some (.int .i64 n)) (hp : w.cell? ⟨p, 0, none⟩ = some (.bool full)) (hql : q < w.heap.size) (hpl : p < w.heap.size) (hn : 0 ≤ n ∧ n ≤ 65536) : Calls Try.prog 24 #[.agg (cells x), .bool true, .func (.func 30) #[] #[.pointer (some ⟨q, 0, none⟩), .pointer (some ⟨p, 0, none⟩)]] w fun e w' => e = .returned (.tuple #[.agg (cells (ackedF x n full)), .int .i64 0]) ∧ Below w.heap.size w w' := by
  have hb : Below w.heap.size w ((w.alloc (.cells (cells x) 23)).alloc (.cells (cells none7) 23)) := ((Below.refl _ _).alloc (Nat.le_refl _) _).alloc (by simp) _
  have ha := (At.new w x).alloc (.cells (cells none7) 23)
  have hn := At.new (w.alloc (.cells (cells x) 23)) none7
  rw [show (w.alloc (.cells (cells x) 23)).heap.size = w.heap.size + 1 from by simp] at hn
  have hs : ((w.alloc (.cells (cells x) 23)).alloc (.cells (cells none7) 23)).heap.size = w.heap.size + 2 := by simp
  go_enter Try.func24, Try.ntmps24
  go_wp2_with fail
  refine (sound _ _).mono ?_
  rintro e w1 ⟨rfl, b1⟩
  rw [hx]
  replace b1 : Below ((w.alloc (.cells (cells x) 23)).alloc (.cells (cells none7) 23)).heap.size ((w.alloc (.cells (cells x) 23)).alloc (.cells (cells none7) 23)) w1 := b1
  rw [hs] at b1
  have h1 := ha.below b1 (by omega)
  have h2 := hn.below b1 (by omega)
  have hw : w.heap.size + 2 ≤ w1.heap.size := by have := b1.size; omega
  have hb1 := hb.trans (b1.mono (by omega))
  have hq1 : w1.cell? ⟨q, 0, none⟩ = some (.int .i64 n) := (hb1.cell (p := ⟨q, 0, none⟩) hql).trans hq
  have hp1 : w1.cell? ⟨p, 0, none⟩ = some (.bool full) := (hb1.cell (p := ⟨p, 0, none⟩) hpl).trans hp
  clear hb ha hn b1
  go_wp2_with fail
  refine (acked1 _ _ q p x n full h1 hq1 hp1 (by omega) (by omega) (by omega) (by omega) hn hx).mono ?_
  rintro e u ⟨⟨v, rfl⟩, h3, g3⟩
  have h4 := h2.grown g3 (by omega)
  have hb3 := below_grown hb1 g3 (by omega) (Nat.le_refl _)
  clear h1 h2 g3 hb1
  go_wp2_with (first | (refine wpList_load_row rfl 23 _ rfl w.heap.size rfl 23 _ _ _ h3 Try.underlying23 rfl (by kernel_rfl) ?_) | (refine wpList_store_row rfl 23 _ _ rfl (w.heap.size + 1) (cells (ackedF x n full)) rfl rfl 23 _ h4 (by kernel_rfl) rfl (cells_one _) ?_))
  exact end_way (p := 6) (u := 7) (c := .int .i64 0) (by kernel_rfl) rfl h4.row rfl rfl ⟨rfl, below_setRow hb3 (by omega) _⟩

/-- What 'changed' does with the closure of Acked, in all cases. -/
theorem changedA (x : Wy) (q p : Nat) (n : Int) (full : Bool) (w : World) (hq : w.cell? ⟨q, 0, none⟩ = some (.int .i64 n)) (hp : w.cell? ⟨p, 0, none⟩ = some (.bool full)) (hql : q < w.heap.size) (hpl : p < w.heap.size) :
    Calls Try.prog 24 #[.agg (cells x), .bool (inB n 0 65536), .func (.func 30) #[] #[.pointer (some ⟨q, 0, none⟩), .pointer (some ⟨p, 0, none⟩)]] w fun e w' => e = .returned (.tuple #[.agg (cells (ackedW x n full)), .int .i64 (ackedE x n)]) ∧ Below w.heap.size w w' := by
  unfold ackedW ackedE
  cases hx : okB x with
  | false => exact changedBad x _ _ w hx
  | true =>
    cases hi : inB n 0 65536 with
    | false => exact changedArg x _ w hx
    | true => exact changed30 x q p n full w hx hq hp hql hpl (by unfold inB at hi; exact of_decide_eq_true hi)

set_option maxRecDepth 100000 in
set_option maxHeartbeats 3200000 in
theorem acked (x : Wy) (n : Int) (full : Bool) (w : World) : Calls Try.prog 18 #[.agg (cells x), .int .i64 n, .bool full] w fun e w' => e = .returned (.tuple #[.agg (cells (ackedW x n full)), .int .i64 (ackedE x n)]) ∧ Below w.heap.size w w' := by
  obtain ⟨W0, hW0⟩ : ∃ W0, W0 = (((w.alloc (.cells (cells x) 23)).alloc (.cells #[.int .i64 n] 3)).alloc (.cells #[.bool full] 4)).alloc (.cells (cells none7) 23) := ⟨_, rfl⟩
  have hsz : W0.heap.size = w.heap.size + 4 := by rw [hW0]; simp
  have hb0 : Below w.heap.size w W0 := by rw [hW0]; exact ((((Below.refl _ _).alloc (Nat.le_refl _) _).alloc (by simp) _).alloc (by simp; omega) _).alloc (by simp; omega) _
  have hn0 : At W0 (w.heap.size + 1 + 1 + 1) none7 := by
    rw [hW0]
    have := At.new (((w.alloc (.cells (cells x) 23)).alloc (.cells #[.int .i64 n] 3)).alloc (.cells #[.bool full] 4)) none7
    rwa [show (((w.alloc (.cells (cells x) 23)).alloc (.cells #[.int .i64 n] 3)).alloc (.cells #[.bool full] 4)).heap.size = w.heap.size + 1 + 1 + 1 from by simp] at this
  have hx0 : At W0 w.heap.size x := by rw [hW0]; exact (((At.new w x).alloc _).alloc _).alloc _
  have hq0 : W0.heap[w.heap.size + 1]? = some (.cells #[.int .i64 n] 3 (0, 0)) := by
    rw [hW0, Below.heap_alloc _ _ _ (by simp), Below.heap_alloc _ _ _ (by simp)]
    have : (w.alloc (.cells (cells x) 23)).heap.size = w.heap.size + 1 := by simp
    rw [← this]; exact Array.getElem?_push_size
  have hp0 : W0.heap[w.heap.size + 1 + 1]? = some (.cells #[.bool full] 4 (0, 0)) := by
    rw [hW0, Below.heap_alloc _ _ _ (by simp)]
    have : ((w.alloc (.cells (cells x) 23)).alloc (.cells #[.int .i64 n] 3)).heap.size = w.heap.size + 1 + 1 := by simp
    rw [← this]; exact Array.getElem?_push_size
  have hl0 : w.heap.size + 1 < W0.heap.size := by omega
  go_enter Try.func18, Try.ntmps18
  go_wp2_with fail
  replace hW0 : W0 = (((w.alloc (.cells (cells x) 23)).alloc (.cells #[.int .i64 n] 3)).alloc (.cells #[.bool full] 4)).alloc (.cells #[.int .i64 0, .int .i64 0, .int .i64 0, .int .i64 0, .int .i64 0, .int .i64 0, .int .i64 0] 23) := hW0
  rw [← hW0]
  clear hW0
  have keyx : ∀ u, StaysW (w.heap.size + 1 + 1 + 1) (ackedW x n full) W0 u → At u w.heap.size x := fun u h => hx0.grown h.1 (by omega)
  have keyq : ∀ u, StaysW (w.heap.size + 1 + 1 + 1) (ackedW x n full) W0 u → u.cell? ⟨w.heap.size + 1, 0, none⟩ = some (.int .i64 n) := fun u h => by
    rw [cell_of_row u (w.heap.size + 1) 0 _ 3 (0, 0) ((h.1.block _ hl0 (by simp)).trans hq0)]; rfl
  have keyp : ∀ u, StaysW (w.heap.size + 1 + 1 + 1) (ackedW x n full) W0 u → u.cell? ⟨w.heap.size + 1 + 1, 0, none⟩ = some (.bool full) := fun u h => by
    rw [cell_of_row u (w.heap.size + 1 + 1) 0 _ 4 (0, 0) ((h.1.block _ (show w.heap.size + 1 + 1 < W0.heap.size by omega) (by simp)).trans hp0)]; rfl
  have keyg : ∀ u, StaysW (w.heap.size + 1 + 1 + 1) (ackedW x n full) W0 u → ∃ y, At u (w.heap.size + 1 + 1 + 1) y := fun u h => h.2.1 ⟨_, hn0⟩
  have keys : ∀ u, StaysW (w.heap.size + 1 + 1 + 1) (ackedW x n full) W0 u → w.heap.size + 4 ≤ u.heap.size := fun u h => by have := h.1.size; omega
  refine MonoG.wp_region_mono (L := relW (w.heap.size + 1 + 1 + 1) (ackedW x n full)) [some 8, some 9, some 10, some 11, some 12, some 13, some 14, none, some 7]
    [MonoG.isV (.agg (cells x)), MonoG.isV (.int .i64 n), MonoG.isV (.bool (inB n 0 65536)), MonoG.isV (.func (.func 30) #[] #[.pointer (some ⟨w.heap.size + 1, 0, none⟩), .pointer (some ⟨w.heap.size + 1 + 1, 0, none⟩)]), MonoG.isV (.tuple #[.agg (cells (ackedW x n full)), .int .i64 (ackedE x n)]), MonoG.isV (.agg (cells (ackedW x n full))), MonoG.isV (.int .i64 (ackedE x n)), atP _ _, MonoG.isV (.int .i64 (ackedE x n))]
    (by kernel_rfl) (by kernel_rfl) ?_ ?_
  · simp only [MonoG.OpGoals, and_true]
    refine ⟨?_, ?_, ?_, ?_, ?_, ?_, ?_, ?_, ?_⟩
    all_goals
      intro a u hL hs hd
      have hxu := keyx u hL
      have hqu := keyq u hL
      have hpu := keyp u hL
      have hsu := keys u hL
      obtain ⟨y, hyu⟩ := keyg u hL
      have e2 : a.eval (.tmp 3) = .pointer (some ⟨w.heap.size, 0, none⟩) := hs 3 (by decide)
      have e3 : a.eval (.tmp 4) = .pointer (some ⟨w.heap.size + 1, 0, none⟩) := hs 4 (by decide)
      have e5 : a.eval (.tmp 5) = .pointer (some ⟨w.heap.size + 1 + 1, 0, none⟩) := hs 5 (by decide)
      have e4 : a.eval (.tmp 6) = .pointer (some ⟨w.heap.size + 1 + 1 + 1, 0, none⟩) := hs 6 (by decide)
      clear hs
      simp only [MonoG.want, if_true]
    · exact wp_load_row 23 (.tmp 3) rfl w.heap.size e2 23 _ _ _ hxu Try.underlying23 rfl (by kernel_rfl) ⟨_, rfl, (relW _ _).refl _, rfl⟩
    · simp at e3 e5; simp [*]; go_wp2; exact stays_refl _ _ _
    · simp at hd; simp [*]; go_wp2_with fail; refine (inn _ _ _ _).mono ?_; rintro e w1 ⟨rfl, rfl⟩; exact ⟨rfl, stays_refl _ _ _⟩
    · simp at e3 e5; simp [*]; go_wp2; exact stays_refl _ _ _
    · simp at hd; simp [*]; go_wp2_with fail; refine (changedA x _ _ n full _ hqu hpu (by omega) (by omega)).mono ?_; rintro e w2 ⟨rfl, b2⟩; exact ⟨rfl, relW_below b2 (show w.heap.size + 1 + 1 + 1 < u.heap.size by omega)⟩
    · simp at hd; simp [*]; go_wp2; exact stays_refl _ _ _
    · simp at hd; simp [*]; go_wp2; exact stays_refl _ _ _
    · have h11 : a.eval (.tmp 13) = .agg (cells (ackedW x n full)) := by simp at hd; simp [*]
      exact wp_store_row 23 (.tmp 6) (.tmp 13) rfl (w.heap.size + 1 + 1 + 1) _ e4 h11 23 _ hyu (by kernel_rfl) rfl (cells_one _) ⟨_, rfl, relW_row hyu, hyu.row⟩
    · simp at hd; simp [*]; go_wp2; exact stays_refl _ _ _
  · intro u hu
    have hb1 := below_grown hb0 hu.1 (by omega) (show w.heap.size ≤ w.heap.size + 1 + 1 + 1 by omega)
    clear keyx keyq keyp keyg keys hn0 hx0 hq0 hb0
    simp
    intro _ h2
    replace h2 : At u (w.heap.size + 1 + 1 + 1) (ackedW x n full) := h2
    go_wp2_with fail
    exact end_way (p := 6) (u := 7) (c := .int .i64 (ackedE x n)) (by kernel_rfl) rfl h2 rfl rfl ⟨rfl, hb1⟩
end Go.Proofs.Ytljalbcmhcagaaa.Way
