/-
  Contracts: to, either; the steps ahead of an election.
-/
import Derived.Test.YtamemmbcdkhdhaaCells
import Derived.Lib.Hide
namespace Go.Proofs.Ytamemmbcdkhdhaa.Peer
open Go.RowKit Mem Cells
set_option linter.unusedVariables false
set_option linter.unusedSimpArgs false

theorem to_ (n : Int) (p : Option Addr) (l c : Nat) (w : World) : Calls Try.prog 23 #[.int .i64 n, .slice p l c] w fun e w' => e = .returned (.agg #[.int .i64 n, .slice p l c]) ∧ Below w.heap.size w w' := by
  have h0 := At.new w 38 #[.int .i64 0, .slice none 0 0]
  have hb := (Below.refl w.heap.size w).alloc (Nat.le_refl _) (.cells #[.int .i64 0, .slice none 0 0] 38)
  go_enter Try.func23, Try.ntmps23
  go_wp2_with (refine wpList_store_row rfl 38 _ _ rfl w.heap.size #[.int .i64 n, .slice p l c] rfl rfl 38 _ h0 (by kernel_rfl) rfl (by simp [Value.oneCell']) ?_)
  exact end_cell (p := 4) (by kernel_rfl) rfl h0.row Try.underlying38 rfl (by kernel_rfl) rfl ⟨rfl, below_setRow hb (Nat.le_refl _) _⟩

theorem either_ (b : Bool) (n m : Int) (p q : Option Addr) (l c l' c' : Nat) (w : World) : Calls Try.prog 24 #[.bool b, .agg #[.int .i64 n, .slice p l c], .agg #[.int .i64 m, .slice q l' c']] w fun e w' =>
    e = .returned (.agg (if b then #[.int .i64 n, .slice p l c] else #[.int .i64 m, .slice q l' c'])) ∧ Below w.heap.size w w' := by
  have h4 := ((At.new w 38 #[.int .i64 n, .slice p l c]).alloc (.cells #[.int .i64 m, .slice q l' c'] 38)).alloc (.cells #[.int .i64 0, .slice none 0 0] 38)
  have h5 := (At.new1 w (.cells #[.int .i64 n, .slice p l c] 38) 38 #[.int .i64 m, .slice q l' c']).alloc (.cells #[.int .i64 0, .slice none 0 0] 38)
  have h6 := At.new2 w (.cells #[.int .i64 n, .slice p l c] 38) (.cells #[.int .i64 m, .slice q l' c'] 38) 38 #[.int .i64 0, .slice none 0 0]
  have hb := (((Below.refl w.heap.size w).alloc (Nat.le_refl _) (.cells #[.int .i64 n, .slice p l c] 38)).alloc (by simp) (.cells #[.int .i64 m, .slice q l' c'] 38)).alloc (by simp; omega) (.cells #[.int .i64 0, .slice none 0 0] 38)
  cases b
  · go_enter Try.func24, Try.ntmps24
    go_wp2_with (first
      | (refine wpList_load_row rfl 38 (.tmp 5) rfl (w.heap.size + 1) rfl 38 _ _ _ h5 Try.underlying38 rfl (by kernel_rfl) ?_)
      | (refine wpList_store_row rfl 38 _ _ rfl (w.heap.size + 1 + 1) #[.int .i64 m, .slice q l' c'] rfl rfl 38 _ h6 (by kernel_rfl) rfl (by simp [Value.oneCell']) ?_))
    exact end_cell (p := 6) (by kernel_rfl) rfl h6.row Try.underlying38 rfl (by kernel_rfl) rfl ⟨rfl, below_setRow hb (by omega) _⟩
  · go_enter Try.func24, Try.ntmps24
    go_wp2_with (first
      | (refine wpList_load_row rfl 38 (.tmp 4) rfl w.heap.size rfl 38 _ _ _ h4 Try.underlying38 rfl (by kernel_rfl) ?_)
      | (refine wpList_store_row rfl 38 _ _ rfl (w.heap.size + 1 + 1) #[.int .i64 n, .slice p l c] rfl rfl 38 _ h6 (by kernel_rfl) rfl (by simp [Value.oneCell']) ?_))
    exact end_cell (p := 6) (by kernel_rfl) rfl h6.row Try.underlying38 rfl (by kernel_rfl) rfl ⟨rfl, below_setRow hb (by omega) _⟩

/-- What an inner step answers: a step that is known, or none. -/
def Known (w : World) (r : Option (Int × List Int)) (e : Ending) (w' : World) : Prop :=
  Below w.heap.size w w' ∧ match r with
  | none => ∃ n p l c, e = .returned (.tuple #[.agg #[.int .i64 n, .slice p l c], .bool false])
  | some (m, xs) => ∃ p c, e = .returned (.tuple #[.agg #[.int .i64 m, .slice p xs.length c], .bool true]) ∧ (∀ b off, p = some ⟨b, off, none⟩ → w.heap.size ≤ b) ∧ Reads .i64 w' (.slice p xs.length c) xs

/-- A new block of numbers. -/
theorem lst (u : World) (xs : List Int) (h : xs.length ≤ maxLen) : Reads .i64 (u.alloc (.cells (xs.map (Value.int .i64)).toArray 3)) (.slice (some ⟨u.heap.size, 0, none⟩) xs.length xs.length) xs :=
  Reads.alloc .i64 u xs 3 (0, 0) xs.length (Nat.le_refl _) h
/-- What reads as numbers goes on so, if another block is written. -/
theorem reads_row {k : IntKind} {u : World} {p : Option Addr} {l c g : Nat} {xs : List Int} {cs : Array Value} (h : Reads k u (.slice p l c) xs) (hn : ∀ b off, p = some ⟨b, off, none⟩ → b ≠ g) : Reads k (u.setRow g cs) (.slice p l c) xs := by
  obtain ⟨p', c', e, h1, h2, h3, h4⟩ := h
  cases e
  refine ⟨p, c, rfl, h1, h2, h3, fun h0 => ?_⟩
  obtain ⟨b, off, rfl, hlt, hc⟩ := h4 h0
  refine ⟨b, off, rfl, by simpa using hlt, fun i hi => (World.cell?_of_block (setRow_other _ _ _ _ (hn b off rfl))).trans (hc i hi)⟩
end Go.Proofs.Ytamemmbcdkhdhaa.Peer
