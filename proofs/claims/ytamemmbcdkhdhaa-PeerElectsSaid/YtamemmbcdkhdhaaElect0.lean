/-
  Queues of numbers of the call's own, which may begin in the midst of their block: one more behind, the first one less; two peers and their queues (plain). No walk.
-/
import Derived.Test.YtamemmbcdkhdhaaWins2
import Derived.Test.YtamemmbcdkhdhaaOpsW
import Derived.Test.YtamemmbcdkhdhaaReg
import Derived.Deep.AppendSrc
import Derived.Lib.Hide
namespace Go.Proofs.Ytamemmbcdkhdhaa.Peer
open Go.RowKit Mem Cells Ops
set_option linter.unusedVariables false
set_option linter.unusedSimpArgs false

theorem info3q : ∃ i z, Try.prog.info? 3 = some i ∧ i.zero = some z ∧ i.size = 1 ∧ i.bytes = 8 ∧ z.cells = #[.int .i64 0] := by
  have h : (Try.prog.info? 3).map (fun i => (i.zero, i.size, i.bytes)) = some (some (.int .i64 0), 1, 8) := by kernel_rfl
  cases hi : Try.prog.info? 3 with
  | none => rw [hi] at h; cases h
  | some i =>
    rw [hi] at h
    simp at h
    exact ⟨i, _, rfl, h.1, h.2.1, h.2.2, rfl⟩
/-- The block that a slice is in. -/
def blk : Value → Option Nat
  | .slice (some a) _ _ => some a.block
  | _ => none
/-- A queue. -/
def OwnQ (B : Nat) (w : World) (v : Value) (xs : List Int) : Prop :=
  (v = .slice none 0 0 ∧ xs = []) ∨ ∃ g off c cur, v = .slice (some ⟨g, off, none⟩) xs.length c ∧ B ≤ g ∧ At w g 3 cur ∧ xs.length ≤ c ∧ (c = 0 ∨ off + c = cur.size) ∧ c ≤ maxLen ∧ ∀ (j : Nat) u, (xs.map (Value.int .i64))[j]? = some u → cur[off + j]? = some u
section
variable {B : Nat} {w w' : World} {v : Value} {xs : List Int}
theorem OwnQ.nil (B : Nat) (w : World) : OwnQ B w (.slice none 0 0) [] := .inl ⟨rfl, rfl⟩
theorem OwnQ.below (h : OwnQ B w v xs) (hb : Below w.heap.size w w') : OwnQ B w' v xs := by
  rcases h with h | ⟨g, off, c, cur, h1, h2, h3, h4⟩
  · exact .inl h
  · exact .inr ⟨g, off, c, cur, h1, h2, h3.ext hb, h4⟩
theorem OwnQ.grown {r : Nat} (h : OwnQ B w v xs) (hg : w.grownBy w' (some r)) (hr : blk v ≠ some r) : OwnQ B w' v xs := by
  rcases h with h | ⟨g, off, c, cur, h1, h2, h3, h4⟩
  · exact .inl h
  · exact .inr ⟨g, off, c, cur, h1, h2, h3.grown hg (fun e => hr (by rw [h1, e]; rfl)), h4⟩
theorem OwnQ.lt (h : OwnQ B w v xs) {g : Nat} (hg : blk v = some g) : B ≤ g ∧ g < w.heap.size ∧ ∃ cur, At w g 3 cur := by
  rcases h with ⟨rfl, _⟩ | ⟨g', off, c, cur, rfl, h2, h3, h4⟩
  · cases hg
  · cases hg; exact ⟨h2, h3.lt, cur, h3⟩
theorem OwnQ.form (h : OwnQ B w v xs) : ∃ p c, v = .slice p xs.length c := by
  rcases h with ⟨rfl, rfl⟩ | ⟨g', off, c, cur, rfl, _⟩
  · exact ⟨none, 0, rfl⟩
  · exact ⟨_, _, rfl⟩
/-- The first of a queue, and the rest. -/
theorem OwnQ.first {x : Int} (h : OwnQ B w v (x :: xs)) : ∃ g off c, v = .slice (some ⟨g, off, none⟩) (xs.length + 1) c ∧ w.cell? ⟨g, off, none⟩ = some (.int .i64 x) ∧ g < w.heap.size ∧ xs.length + 1 ≤ c ∧
    ∃ v', (∀ u : World, (Instr.sliceAt 22 v (some (.int .i64 1)) none none).run Try.prog u = .ok v' u) ∧ OwnQ B w v' xs ∧ blk v' = blk v ∧ v'.oneCell' = true := by
  rcases h with ⟨_, h0⟩ | ⟨g, off, c, cur, rfl, h2, h3, h4, h5, h6, h7⟩
  · cases h0
  · simp only [List.length_cons] at h4
    refine ⟨g, off, c, rfl, ?_, h3.lt, h4, sliced (some ⟨g, off, none⟩) 1 (xs.length + 1) c 1, fun u => ?_, ?_, ?_, ?_⟩
    · rw [h3.cell off]
      exact h7 0 _ rfl
    · obtain ⟨i, z, i1, i2, i3, i4, i5⟩ := info3q
      have hsz : (sizeOf (Try.prog.elem 22)).run Try.prog u = .ok 1 u := by
        rw [show Try.prog.elem 22 = 3 from by kernel_rfl]
        simp [sizeOf, typeInfo, i1, i3]
      have h := run_slice_l u 22 (some ⟨g, off, none⟩) (xs.length + 1) c Try.underlying22 .i64 1 (by omega) (by omega)
      rw [run_sliceAt_slice u 22 _ _ _ _ Try.underlying22, List.length_cons, h, hsz]
      rfl
    · unfold sliced
      by_cases e : c = 1
      · have h0 : xs = [] := List.eq_nil_of_length_eq_zero (by omega)
        subst h0
        rw [if_pos e]
        exact .inr ⟨g, off, 0, cur, by rw [e]; rfl, h2, h3, by simp, .inl rfl, by omega, fun j u hj => by simp at hj⟩
      · rw [if_neg e]
        refine .inr ⟨g, off + 1, c - 1, cur, by simp [Addr.add], h2, h3, by omega, .inr (by rcases h5 with h5 | h5 <;> omega), by omega, fun j u hj => ?_⟩
        rw [show off + 1 + j = off + (j + 1) from by omega]
        exact h7 (j + 1) u (by simpa using hj)
    · unfold sliced; split <;> simp [blk, Addr.add]
    · unfold sliced; split <;> rfl
/-- One more behind a queue. -/
theorem OwnQ.append (h : OwnQ B w v xs) (x : Int) (g0 : Nat) (hat0 : At w g0 3 #[.int .i64 x]) (hB : B ≤ w.heap.size) (hl : xs.length ≤ 1000) :
    ∃ v' w', (Builtin.append_ #[22, 22] 22 #[v, .slice (some ⟨g0, 0, none⟩) 1 1]).run Try.prog w = .ok v' w' ∧ OwnQ B w' v' (xs ++ [x]) ∧ w.grownBy w' (blk v) ∧ (blk v' = blk v ∨ blk v' = some w.heap.size) ∧ v'.oneCell' = true := by
  obtain ⟨i, z, i1, i2, i3, i4, i5⟩ := info3q
  have hs : Src Try.prog i.size 22 (.slice (some ⟨g0, 0, none⟩) 1 1) 1 [.int .i64 x] w := Src.ofSlice w Try.underlying22 ⟨g0, 0, none⟩ 1 1 [.int .i64 x] (by rw [i3]; rfl) (fun j u hj => by rw [add_none, Nat.zero_add, hat0.cell j]; simpa using hj) (fun u hu => by
    rw [List.mem_singleton] at hu; subst hu; rfl)
  have grow : ∀ (p : Option Addr) (c : Nat), c ≤ maxLen → ¬ xs.length + 1 ≤ c → (Builtin.firstCells i.size xs.length (.slice p xs.length c)).run Try.prog w.drew = .ok (xs.map (Value.int .i64)).toArray w.drew →
      ∃ v' w', (Builtin.append_ #[22, 22] 22 #[.slice p xs.length c, .slice (some ⟨g0, 0, none⟩) 1 1]).run Try.prog w = .ok v' w' ∧ OwnQ B w' v' (xs ++ [x]) ∧ (∀ r, w.grownBy w' r) ∧ blk v' = some w.heap.size ∧ v'.oneCell' = true := by
    intro p c hc hroom hold
    have hcap := nextslicecap_le (need := xs.length + 1) (old := c) (by omega)
    have hrun := run_append_grow_src (P := Try.prog) w 22 22 22 3 i z Try.underlying22 i1 i2 p xs.length c (xs.map (Value.int .i64)) hold (.slice (some ⟨g0, 0, none⟩) 1 1) 1 [.int .i64 x] hs (by omega) (by omega) (by rw [i4]; omega)
    rw [i5] at hrun
    have hge := grownCap_ge w (xs.length + 1) c 3
    have hle : grownCap w (xs.length + 1) c 3 ≤ maxLen := grownCap_le_maxLen _ _ _ _ (by unfold maxLen; omega)
    refine ⟨_, _, hrun, .inr ⟨w.heap.size, 0, grownCap w (xs.length + 1) c 3, _, by rw [List.length_append]; rfl, hB, At.new w.drew 3 _, by simpa using hge, .inr ?_, hle, fun j u hj => ?_⟩, fun r => ?_, rfl, rfl⟩
    · simp [Builtin.zeroCells]
      omega
    · rw [Nat.zero_add]
      rw [List.map_append] at hj
      rw [Array.getElem?_append_left (by have := (List.getElem?_eq_some_iff.1 hj).1; simpa using this)]
      simpa using hj
    · exact grown_below r ((Frame.ext_drew w).alloc (Nat.le_refl _) _)
  rcases h with ⟨rfl, rfl⟩ | ⟨g, off, c, cur, rfl, h2, h3, h4, h5, h6, h7⟩
  · obtain ⟨v', w', k1, k2, k3, k4, k5⟩ := grow none 0 (Nat.zero_le _) (by simp) (run_firstCells_none w.drew i.size 0 0 0)
    exact ⟨v', w', k1, k2, k3 _, .inr k4, k5⟩
  · by_cases hroom : xs.length + 1 ≤ c
    · have hsz : off + c = cur.size := by rcases h5 with h5 | h5 <;> omega
      have hst := run_storeCells_at Try.prog g (off + xs.length) 3 [.int .i64 x] 0 cur w h3 (by simp; omega) hs.one
      obtain ⟨cs, hcs⟩ : ∃ cs, (cur.toList.take (off + xs.length + 0) ++ [Value.int .i64 x] ++ cur.toList.drop (off + xs.length + 0 + [Value.int .i64 x].length)).toArray = cs := ⟨_, rfl⟩
      rw [hcs] at hst
      have hcel := hs.cells
      rw [i3] at hcel
      have htk : (cur.toList.take (off + xs.length + 0)).length = off + xs.length := by rw [List.length_take, Array.length_toList (xs := cur)]; omega
      refine ⟨.slice (some ⟨g, off, none⟩) (xs.length + 1) c, w.setRow g cs, ?_, .inr ⟨g, off, c, cs, by rw [List.length_append]; rfl, h2, At.row h3, by simpa using hroom, .inr ?_, h6, fun j u hj => ?_⟩, ?_, .inl rfl, rfl⟩
      · simp [Builtin.append_, run_underlying Try.underlying22, sizeOf, typeInfo, i1, i3, hs.len, hroom, hcel, Addr.add_lit, hst]
      · rw [← hcs]
        simp
        omega
      · rw [List.map_append] at hj
        rw [← hcs, List.getElem?_toArray, List.append_assoc]
        by_cases hjl : j < xs.length
        · rw [List.getElem?_append_left (by simpa using hjl)] at hj
          rw [List.getElem?_append_left (by rw [htk]; omega), List.getElem?_take_of_lt (by omega)]
          simpa using h7 j u hj
        · rw [List.getElem?_append_right (by simp; omega)] at hj
          rw [List.getElem?_append_right (by rw [htk]; omega), htk]
          have hj1 := (List.getElem?_eq_some_iff.1 hj).1
          simp at hj1
          obtain rfl : j = xs.length := by omega
          simp at hj ⊢
          exact hj
      · exact ⟨rfl, rfl, rfl, by simp, fun q _ hq => setRow_other _ _ _ _ (fun e => hq (by rw [e]; rfl))⟩
    · obtain ⟨v', w', k1, k2, k3, k4, k5⟩ := grow (some ⟨g, off, none⟩) c h6 hroom (run_firstCells_some w.drew i.size xs.length ⟨g, off, none⟩ xs.length c (xs.map (Value.int .i64)) (by rw [i3]; simp) (fun j u hj => by
        rw [add_none]
        exact (h3.drew.cell _).trans (h7 j u hj)))
      exact ⟨v', w', k1, k2, k3 _, .inr k4, k5⟩
end
end Go.Proofs.Ytamemmbcdkhdhaa.Peer
