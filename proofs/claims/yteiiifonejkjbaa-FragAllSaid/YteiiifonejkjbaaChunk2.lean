/-
  Contracts: slices.Clone at []byte, slices.Chunk; the iterator's contract.
-/
import Derived.Test.YteiiifonejkjbaaChunk
namespace Go.Proofs.Yteiiifonejkjbaa.Chunk
open Go.RowKit Mem Cells Ops
set_option linter.unusedVariables false
set_option linter.unusedSimpArgs false

theorem info5 : (Try.prog.info? 5).map (fun i => (i.zero, i.size, i.bytes)) = some (some (.int .u8 0), 1, 1) := by kernel_rfl
set_option maxRecDepth 100000 in
set_option maxHeartbeats 800000 in
theorem clone (v : Value) (xs : List Int) (w : World) (hr : Reads .u8 w v xs) (hb : xs.length ≤ 140737488355328) :
    Calls Try.prog 22 #[v] w fun e w' => ∃ v', e = .returned v' ∧ Row .u8 5 w.heap.size w' v' xs ∧ Below w.heap.size w w' := by
  obtain ⟨i0, hi, hz0, hz1, hz2⟩ := info_parts info5
  have hr' := hr
  obtain ⟨p, c, rfl, h1, h2, h3, h4⟩ := hr
  cases p with
  | none =>
    obtain rfl := h3 rfl
    have hy : xs = [] := List.eq_nil_of_length_eq_zero (by omega)
    subst hy
    have heq := fun w => Lib.run_eql_slice_nil (P := Try.prog) w 30 5 none 0 0 0 0 Try.underlying30
    clear hr' h1 h2 h3 h4 hb
    go_enter Try.func22, Try.ntmps22
    go_wp2
    go_ret
    exact ⟨_, rfl, World.ownsRow_nil _ _ _ _, Below.refl _ _⟩
  | some ad =>
    clear h4 h3
    have heq := fun w => Lib.run_eql_slice_nil (P := Try.prog) w 30 5 (some ad) xs.length c 0 0 Try.underlying30
    have hown : Row .u8 5 w.heap.size (w.alloc (.cells #[] 5)) (.slice (some ⟨w.heap.size, 0, none⟩) 0 0) [] := World.ownsRow_made _ _ _ (Nat.le_refl _) (by simp [maxLen]) rfl
    have hr2 := hr'.below ((Below.refl _ _).alloc (Nat.le_refl _) (.cells #[] 5))
    clear hr'
    go_enter Try.func22, Try.ntmps22
    go_wp2_with (at_builtin; refine wpl_append rfl _ _ 30 rfl .u8 w.heap.size 5 1 i0 (.int .u8 0) Try.underlying30 hi hz0 hz1 hz2 rfl _ _ [] xs rfl rfl hown hr2 ?_ ?_ ?_ ?_)
    · unfold maxLen; simp; omega
    · simp; omega
    · simp
    · intro v' w' hv hg
      go_wp2
      go_ret
      exact ⟨_, rfl, by simpa using hv, ((Below.refl _ _).alloc (Nat.le_refl _) (.cells #[] 5)).grown hg (by simp) (by simp [Value.ownBlock])⟩

set_option maxRecDepth 100000 in
/-- slices.Chunk(s, size): the two boxed; the function value captures the boxes. -/
theorem chunk21 (a : Option Addr) (L cap sz : Nat) (hsz : 0 < sz) (w : World) :
    Calls Try.prog 21 #[.slice a L cap, .int .i64 sz] w fun e w' => e = .returned (.func (.func 30) #[] #[.pointer (some ⟨w.heap.size, 0, none⟩), .pointer (some ⟨w.heap.size + 1, 0, none⟩)]) ∧
      w' = (w.alloc (.cells #[.slice a L cap] 30)).alloc (.cells #[.int .i64 sz] 3) := by
  have h1 : ¬ (sz : Int) < 1 := by omega
  have h2 : decide ((sz : Int) < 1) = false := decide_eq_false h1
  go_enter Try.func21, Try.ntmps21
  go_wp2
  go_ret
  exact ⟨rfl, rfl⟩

/-- The iterator's contract. -/
theorem chunk_stops (n : Nat) (hn : 1 ≤ n) (gA gB b off L cap sz : Nat) (hsz : 0 < sz) (hsz' : sz ≤ 256) (hL : L ≤ 4096) (hcap : L ≤ cap) (hcm : cap ≤ maxLen) (w : World)
    (hA : w.cell? ⟨gA, 0, none⟩ = some (.slice (some ⟨b, off, none⟩) L cap)) (hB : w.cell? ⟨gB, 0, none⟩ = some (.int .i64 sz)) (hgA : gA < w.heap.size) (hgB : gB < w.heap.size) :
    SeqStopsK Fence.wide n Try.prog 30 #[.pointer (some ⟨gA, 0, none⟩), .pointer (some ⟨gB, 0, none⟩)] (piece b off L sz) (Kp gA gB) (fun xs => ∃ k, xs = starts sz k ∧ L ≤ k * sz ∧ (k = 0 ∨ (k - 1) * sz < L)) (fun _ => True) L w :=
  fun l J Jx W hW hJ _ hY h0 => callsIn_wide.2 (chunk1 n hn l gA gB b off L cap sz hsz hsz' hL hcap hcm J Jx _ hJ hY W ((hW.cell (p := ⟨gA, 0, none⟩) hgA).trans hA) ((hW.cell (p := ⟨gB, 0, none⟩) hgB).trans hB) h0)

end Go.Proofs.Yteiiifonejkjbaa.Chunk
