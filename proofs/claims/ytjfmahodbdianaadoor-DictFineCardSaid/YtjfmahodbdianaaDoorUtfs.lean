/-
  Several texts in one: Utf0, Word, Word2, WordQ.
-/
import Derived.Lib.DecodeN
import Derived.Test.YtjfmahodbdianaaDoorTpls
import Derived.Deep.DeepMust
import Derived.Lib.Hide
import Derived.Laws.Bits64b
import Derived.BigQuiet
/-
  Which bytes are UTF-8 (plain): one step, and all.
-/
namespace Go.Proofs.YtjfmahodbdianaaDoor.Utf
set_option linter.unusedVariables false

def fN (c : Int) : Nat := Lib.firstT c.toNat
def loN (c : Int) : Int := Lib.accLo (fN c / 16)
def hiN (c : Int) : Int := Lib.accHi (fN c / 16)
def at_ (xs : List Int) (i : Nat) : Int := xs.getD i 0
def badB (x : Int) : Prop := x < 128 ∨ 191 < x
instance (x : Int) : Decidable (badB x) := by unfold badB; infer_instance
/-- How many bytes the first rune takes; 0: none is there. -/
def stepV (xs : List Int) : Nat :=
  let c := at_ xs 0
  if c < 128 then 1
  else if fN c % 8 = 2 then (if xs.length < 2 ∨ at_ xs 1 < loN c ∨ hiN c < at_ xs 1 then 0 else 2)
  else if fN c % 8 = 3 then (if xs.length < 3 ∨ at_ xs 1 < loN c ∨ hiN c < at_ xs 1 ∨ badB (at_ xs 2) then 0 else 3)
  else if fN c % 8 = 4 then (if xs.length < 4 ∨ at_ xs 1 < loN c ∨ hiN c < at_ xs 1 ∨ badB (at_ xs 2) ∨ badB (at_ xs 3) then 0 else 4)
  else 0
theorem step_le (xs : List Int) (h : xs ≠ []) : stepV xs ≤ xs.length := by
  have : 0 < xs.length := List.length_pos_iff.2 h
  unfold stepV
  simp only
  repeat' split
  all_goals omega
def v8f : Nat → List Int → Bool
  | 0, xs => xs.isEmpty
  | f + 1, xs => if xs.isEmpty then true else if stepV xs = 0 then false else v8f f (xs.drop (stepV xs))
def v8 (xs : List Int) : Bool := v8f xs.length xs
theorem v8f_more : ∀ (f g : Nat) (xs : List Int), xs.length ≤ f → xs.length ≤ g → v8f f xs = v8f g xs
  | 0, 0, xs, _, _ => rfl
  | 0, g + 1, xs, hf, _ => by
    have : xs = [] := List.eq_nil_of_length_eq_zero (by omega)
    subst this
    rfl
  | f + 1, 0, xs, _, hg => by
    have : xs = [] := List.eq_nil_of_length_eq_zero (by omega)
    subst this
    rfl
  | f + 1, g + 1, xs, hf, hg => by
    unfold v8f
    split
    · rfl
    split
    · rfl
    · exact v8f_more f g _ (by rw [List.length_drop]; omega) (by rw [List.length_drop]; omega)
theorem v8_nil : v8 [] = true := rfl
theorem v8_bad {xs : List Int} (h : xs ≠ []) (h0 : stepV xs = 0) : v8 xs = false := by
  obtain ⟨n, hn⟩ : ∃ n, xs.length = n + 1 := ⟨xs.length - 1, by have := List.length_pos_iff.2 h; omega⟩
  unfold v8
  rw [hn]
  unfold v8f
  rw [if_neg (by simpa using h), if_pos h0]
theorem v8_step {xs : List Int} {k : Nat} (h : xs ≠ []) (hk : stepV xs = k) (h0 : k ≠ 0) : v8 xs = v8 (xs.drop k) := by
  obtain ⟨n, hn⟩ : ∃ n, xs.length = n + 1 := ⟨xs.length - 1, by have := List.length_pos_iff.2 h; omega⟩
  unfold v8
  rw [hn]
  show (if xs.isEmpty then true else if stepV xs = 0 then false else v8f n (xs.drop (stepV xs))) = _
  rw [if_neg (by simpa using h), hk, if_neg h0]
  exact v8f_more _ _ _ (by rw [List.length_drop]; omega) (Nat.le_refl _)
theorem v8_ascii {xs : List Int} (h : xs ≠ []) (h0 : at_ xs 0 < 128) : v8 xs = v8 (xs.drop 1) := v8_step h (by unfold stepV; simp only; rw [if_pos h0]) (by decide)
theorem v8_skip : ∀ (k : Nat) (xs : List Int), k ≤ xs.length → (∀ i, i < k → at_ xs i < 128) → v8 xs = v8 (xs.drop k)
  | 0, xs, _, _ => rfl
  | k + 1, xs, hk, h => by
    rw [v8_skip k xs (by omega) (fun i hi => h i (by omega)), v8_ascii (xs := xs.drop k) (fun e => by have := congrArg List.length e; rw [List.length_drop] at this; simp at this; omega) (by have := h k (by omega); simpa [at_, List.getD_eq_getElem?_getD] using this), List.drop_drop]
end Go.Proofs.YtjfmahodbdianaaDoor.Utf
/-
  Contract: utf8.word (eight bytes as one number). (Printed by src/gen_word.py, then genreg.py.)
-/
namespace Go.Proofs.YtjfmahodbdianaaDoor.Utf
open Go.RowKit Mem Cells Ops
set_option linter.unusedVariables false
set_option linter.unusedSimpArgs false
set_option maxRecDepth 100000 in
set_option maxHeartbeats 1600000 in
theorem word8 (b off n c : Nat) (x0 x1 x2 x3 x4 x5 x6 x7 a1 a2 a3 a4 a5 a6 a7 : Int) (w : World) (hn : 8 ≤ n) (hnm : n ≤ 9223372036854775807) (hlt : b < w.heap.size) (r0 : w.cell? ⟨b, off, none⟩ = some (.int .u8 x0)) (h0 : 0 ≤ x0 ∧ x0 ≤ 255) (r1 : w.cell? ⟨b, off + 1, none⟩ = some (.int .u8 x1)) (h1 : 0 ≤ x1 ∧ x1 ≤ 255) (r2 : w.cell? ⟨b, off + 2, none⟩ = some (.int .u8 x2)) (h2 : 0 ≤ x2 ∧ x2 ≤ 255) (r3 : w.cell? ⟨b, off + 3, none⟩ = some (.int .u8 x3)) (h3 : 0 ≤ x3 ∧ x3 ≤ 255) (r4 : w.cell? ⟨b, off + 4, none⟩ = some (.int .u8 x4)) (h4 : 0 ≤ x4 ∧ x4 ≤ 255) (r5 : w.cell? ⟨b, off + 5, none⟩ = some (.int .u8 x5)) (h5 : 0 ≤ x5 ∧ x5 ≤ 255) (r6 : w.cell? ⟨b, off + 6, none⟩ = some (.int .u8 x6)) (h6 : 0 ≤ x6 ∧ x6 ≤ 255) (r7 : w.cell? ⟨b, off + 7, none⟩ = some (.int .u8 x7)) (h7 : 0 ≤ x7 ∧ x7 ≤ 255) (g1 : bits .or .u64 x0 (x1 * 256) = a1) (g2 : bits .or .u64 a1 (x2 * 65536) = a2) (g3 : bits .or .u64 a2 (x3 * 16777216) = a3) (g4 : bits .or .u64 a3 (x4 * 4294967296) = a4) (g5 : bits .or .u64 a4 (x5 * 1099511627776) = a5) (g6 : bits .or .u64 a5 (x6 * 281474976710656) = a6) (g7 : bits .or .u64 a6 (x7 * 72057594037927936) = a7) :
    Calls Tryd.prog 40 #[.slice (some ⟨b, off, none⟩) n c] w fun e w' => e = .returned (.int .u64 a7) ∧ Below w.heap.size w w' := by
  have f1 : IntKind.u64.wrap (x1 * 256) = x1 * 256 := by rw [IntKind.wrap_u64]; omega
  have f2 : IntKind.u64.wrap (x2 * 65536) = x2 * 65536 := by rw [IntKind.wrap_u64]; omega
  have f3 : IntKind.u64.wrap (x3 * 16777216) = x3 * 16777216 := by rw [IntKind.wrap_u64]; omega
  have f4 : IntKind.u64.wrap (x4 * 4294967296) = x4 * 4294967296 := by rw [IntKind.wrap_u64]; omega
  have f5 : IntKind.u64.wrap (x5 * 1099511627776) = x5 * 1099511627776 := by rw [IntKind.wrap_u64]; omega
  have f6 : IntKind.u64.wrap (x6 * 281474976710656) = x6 * 281474976710656 := by rw [IntKind.wrap_u64]; omega
  have f7 : IntKind.u64.wrap (x7 * 72057594037927936) = x7 * 72057594037927936 := by rw [IntKind.wrap_u64]; omega
  have n0 : ¬ n = 0 := by omega
  have n1 : ¬ (n : Int) ≤ 1 := by omega
  have n2 : ¬ (n : Int) ≤ 2 := by omega
  have n3 : ¬ (n : Int) ≤ 3 := by omega
  have n4 : ¬ (n : Int) ≤ 4 := by omega
  have n5 : ¬ (n : Int) ≤ 5 := by omega
  have n6 : ¬ (n : Int) ≤ 6 := by omega
  have n7 : ¬ (n : Int) ≤ 7 := by omega
  go_enter Tryd.func40, Tryd.ntmps40
  go_wp2_with fail
  refine Mono.wp_region_mono [some 25, some 26, some 27, some 28, some 29, some 30, some 31, some 32, some 33, some 34, some 35, some 36, some 37, some 38, some 39, some 40, some 41, some 42, some 43, some 44, some 45, some 46, some 47, some 48, some 49, some 50, some 51, some 52, some 53, some 54, some 55, some 56, some 57, some 58, some 59, some 60, some 61, some 62, some 63, some 64, some 65, some 66, some 67, some 68, some 69, some 70, some 2] [Mono.isV (.slice (some ⟨b, off, none⟩) n c), Mono.isV (.pointer (some ⟨b, off, none⟩)), Mono.isV (.int .u8 (x0)), Mono.isV (.int .u64 (x0)), Mono.isV (.slice (some ⟨b, off, none⟩) n c), Mono.isV (.pointer (some ⟨b, off + 1, none⟩)), Mono.isV (.int .u8 (x1)), Mono.isV (.int .u64 (x1)), Mono.isV (.int .u64 (x1 * 256)), Mono.isV (.int .u64 a1), Mono.isV (.slice (some ⟨b, off, none⟩) n c), Mono.isV (.pointer (some ⟨b, off + 2, none⟩)), Mono.isV (.int .u8 (x2)), Mono.isV (.int .u64 (x2)), Mono.isV (.int .u64 (x2 * 65536)), Mono.isV (.int .u64 a2), Mono.isV (.slice (some ⟨b, off, none⟩) n c), Mono.isV (.pointer (some ⟨b, off + 3, none⟩)), Mono.isV (.int .u8 (x3)), Mono.isV (.int .u64 (x3)), Mono.isV (.int .u64 (x3 * 16777216)), Mono.isV (.int .u64 a3), Mono.isV (.slice (some ⟨b, off, none⟩) n c), Mono.isV (.pointer (some ⟨b, off + 4, none⟩)), Mono.isV (.int .u8 (x4)), Mono.isV (.int .u64 (x4)), Mono.isV (.int .u64 (x4 * 4294967296)), Mono.isV (.int .u64 a4), Mono.isV (.slice (some ⟨b, off, none⟩) n c), Mono.isV (.pointer (some ⟨b, off + 5, none⟩)), Mono.isV (.int .u8 (x5)), Mono.isV (.int .u64 (x5)), Mono.isV (.int .u64 (x5 * 1099511627776)), Mono.isV (.int .u64 a5), Mono.isV (.slice (some ⟨b, off, none⟩) n c), Mono.isV (.pointer (some ⟨b, off + 6, none⟩)), Mono.isV (.int .u8 (x6)), Mono.isV (.int .u64 (x6)), Mono.isV (.int .u64 (x6 * 281474976710656)), Mono.isV (.int .u64 a6), Mono.isV (.slice (some ⟨b, off, none⟩) n c), Mono.isV (.pointer (some ⟨b, off + 7, none⟩)), Mono.isV (.int .u8 (x7)), Mono.isV (.int .u64 (x7)), Mono.isV (.int .u64 (x7 * 72057594037927936)), Mono.isV (.int .u64 a7), Mono.isV (.int .u64 a7)] (by kernel_rfl) (by kernel_rfl) ?_ ?_
  · simp only [Mono.OpGoals, and_true]
    refine ⟨?_, ?_, ?_, ?_, ?_, ?_, ?_, ?_, ?_, ?_, ?_, ?_, ?_, ?_, ?_, ?_, ?_, ?_, ?_, ?_, ?_, ?_, ?_, ?_, ?_, ?_, ?_, ?_, ?_, ?_, ?_, ?_, ?_, ?_, ?_, ?_, ?_, ?_, ?_, ?_, ?_, ?_, ?_, ?_, ?_, ?_, ?_⟩
    · intro a u hbu hsu hdu
      have q0 := (hbu.cell (p := ⟨b, off, none⟩) hlt).trans r0; have q1 := (hbu.cell (p := ⟨b, off + 1, none⟩) hlt).trans r1; have q2 := (hbu.cell (p := ⟨b, off + 2, none⟩) hlt).trans r2; have q3 := (hbu.cell (p := ⟨b, off + 3, none⟩) hlt).trans r3; have q4 := (hbu.cell (p := ⟨b, off + 4, none⟩) hlt).trans r4; have q5 := (hbu.cell (p := ⟨b, off + 5, none⟩) hlt).trans r5; have q6 := (hbu.cell (p := ⟨b, off + 6, none⟩) hlt).trans r6; have q7 := (hbu.cell (p := ⟨b, off + 7, none⟩) hlt).trans r7
      refine Mono.if_want rfl ?_
      exact Mono.ok_move (.tmp 0) rfl (hsu 0 (by decide))
    · intro a u hbu hsu hdu
      have q0 := (hbu.cell (p := ⟨b, off, none⟩) hlt).trans r0; have q1 := (hbu.cell (p := ⟨b, off + 1, none⟩) hlt).trans r1; have q2 := (hbu.cell (p := ⟨b, off + 2, none⟩) hlt).trans r2; have q3 := (hbu.cell (p := ⟨b, off + 3, none⟩) hlt).trans r3; have q4 := (hbu.cell (p := ⟨b, off + 4, none⟩) hlt).trans r4; have q5 := (hbu.cell (p := ⟨b, off + 5, none⟩) hlt).trans r5; have q6 := (hbu.cell (p := ⟨b, off + 6, none⟩) hlt).trans r6; have q7 := (hbu.cell (p := ⟨b, off + 7, none⟩) hlt).trans r7
      refine Mono.if_want rfl ?_
      have z25 : a.eval (.tmp 25) = .slice (some ⟨b, off, none⟩) n c := Mono.dep_at hdu (i := 0) (d := 25) rfl rfl rfl
      simp [Act.eval] at z25
      exact Mono.ok_val (.pointer (some ⟨b, off, none⟩)) (by simp [execOp, z25, go_sem, n0, n1, n2, n3, n4, n5, n6, n7, q0, q1, q2, q3, q4, q5, q6, q7, f1, f2, f3, f4, f5, f6, f7, g1, g2, g3, g4, g5, g6, g7]) rfl
    · intro a u hbu hsu hdu
      have q0 := (hbu.cell (p := ⟨b, off, none⟩) hlt).trans r0; have q1 := (hbu.cell (p := ⟨b, off + 1, none⟩) hlt).trans r1; have q2 := (hbu.cell (p := ⟨b, off + 2, none⟩) hlt).trans r2; have q3 := (hbu.cell (p := ⟨b, off + 3, none⟩) hlt).trans r3; have q4 := (hbu.cell (p := ⟨b, off + 4, none⟩) hlt).trans r4; have q5 := (hbu.cell (p := ⟨b, off + 5, none⟩) hlt).trans r5; have q6 := (hbu.cell (p := ⟨b, off + 6, none⟩) hlt).trans r6; have q7 := (hbu.cell (p := ⟨b, off + 7, none⟩) hlt).trans r7
      refine Mono.if_want rfl ?_
      have z26 : a.eval (.tmp 26) = .pointer (some ⟨b, off, none⟩) := Mono.dep_at hdu (i := 1) (d := 26) rfl rfl rfl
      simp [Act.eval] at z26
      exact Mono.ok_val (.int .u8 (x0)) (by simp [execOp, z26, go_sem, n0, n1, n2, n3, n4, n5, n6, n7, q0, q1, q2, q3, q4, q5, q6, q7, f1, f2, f3, f4, f5, f6, f7, g1, g2, g3, g4, g5, g6, g7]) rfl
    · intro a u hbu hsu hdu
      have q0 := (hbu.cell (p := ⟨b, off, none⟩) hlt).trans r0; have q1 := (hbu.cell (p := ⟨b, off + 1, none⟩) hlt).trans r1; have q2 := (hbu.cell (p := ⟨b, off + 2, none⟩) hlt).trans r2; have q3 := (hbu.cell (p := ⟨b, off + 3, none⟩) hlt).trans r3; have q4 := (hbu.cell (p := ⟨b, off + 4, none⟩) hlt).trans r4; have q5 := (hbu.cell (p := ⟨b, off + 5, none⟩) hlt).trans r5; have q6 := (hbu.cell (p := ⟨b, off + 6, none⟩) hlt).trans r6; have q7 := (hbu.cell (p := ⟨b, off + 7, none⟩) hlt).trans r7
      refine Mono.if_want rfl ?_
      have z27 : a.eval (.tmp 27) = .int .u8 (x0) := Mono.dep_at hdu (i := 2) (d := 27) rfl rfl rfl
      simp [Act.eval] at z27
      exact Mono.ok_val (.int .u64 (x0)) (by simp [execOp, z27, go_sem, n0, n1, n2, n3, n4, n5, n6, n7, q0, q1, q2, q3, q4, q5, q6, q7, f1, f2, f3, f4, f5, f6, f7, g1, g2, g3, g4, g5, g6, g7] <;> simp [convert, IntKind.wrap_u64, IntKind.wrap_i64] <;> omega) rfl
    · intro a u hbu hsu hdu
      have q0 := (hbu.cell (p := ⟨b, off, none⟩) hlt).trans r0; have q1 := (hbu.cell (p := ⟨b, off + 1, none⟩) hlt).trans r1; have q2 := (hbu.cell (p := ⟨b, off + 2, none⟩) hlt).trans r2; have q3 := (hbu.cell (p := ⟨b, off + 3, none⟩) hlt).trans r3; have q4 := (hbu.cell (p := ⟨b, off + 4, none⟩) hlt).trans r4; have q5 := (hbu.cell (p := ⟨b, off + 5, none⟩) hlt).trans r5; have q6 := (hbu.cell (p := ⟨b, off + 6, none⟩) hlt).trans r6; have q7 := (hbu.cell (p := ⟨b, off + 7, none⟩) hlt).trans r7
      refine Mono.if_want rfl ?_
      exact Mono.ok_move (.tmp 0) rfl (hsu 0 (by decide))
    · intro a u hbu hsu hdu
      have q0 := (hbu.cell (p := ⟨b, off, none⟩) hlt).trans r0; have q1 := (hbu.cell (p := ⟨b, off + 1, none⟩) hlt).trans r1; have q2 := (hbu.cell (p := ⟨b, off + 2, none⟩) hlt).trans r2; have q3 := (hbu.cell (p := ⟨b, off + 3, none⟩) hlt).trans r3; have q4 := (hbu.cell (p := ⟨b, off + 4, none⟩) hlt).trans r4; have q5 := (hbu.cell (p := ⟨b, off + 5, none⟩) hlt).trans r5; have q6 := (hbu.cell (p := ⟨b, off + 6, none⟩) hlt).trans r6; have q7 := (hbu.cell (p := ⟨b, off + 7, none⟩) hlt).trans r7
      refine Mono.if_want rfl ?_
      have z29 : a.eval (.tmp 29) = .slice (some ⟨b, off, none⟩) n c := Mono.dep_at hdu (i := 4) (d := 29) rfl rfl rfl
      simp [Act.eval] at z29
      exact Mono.ok_val (.pointer (some ⟨b, off + 1, none⟩)) (by simp [execOp, z29, go_sem, n0, n1, n2, n3, n4, n5, n6, n7, q0, q1, q2, q3, q4, q5, q6, q7, f1, f2, f3, f4, f5, f6, f7, g1, g2, g3, g4, g5, g6, g7]) rfl
    · intro a u hbu hsu hdu
      have q0 := (hbu.cell (p := ⟨b, off, none⟩) hlt).trans r0; have q1 := (hbu.cell (p := ⟨b, off + 1, none⟩) hlt).trans r1; have q2 := (hbu.cell (p := ⟨b, off + 2, none⟩) hlt).trans r2; have q3 := (hbu.cell (p := ⟨b, off + 3, none⟩) hlt).trans r3; have q4 := (hbu.cell (p := ⟨b, off + 4, none⟩) hlt).trans r4; have q5 := (hbu.cell (p := ⟨b, off + 5, none⟩) hlt).trans r5; have q6 := (hbu.cell (p := ⟨b, off + 6, none⟩) hlt).trans r6; have q7 := (hbu.cell (p := ⟨b, off + 7, none⟩) hlt).trans r7
      refine Mono.if_want rfl ?_
      have z30 : a.eval (.tmp 30) = .pointer (some ⟨b, off + 1, none⟩) := Mono.dep_at hdu (i := 5) (d := 30) rfl rfl rfl
      simp [Act.eval] at z30
      exact Mono.ok_val (.int .u8 (x1)) (by simp [execOp, z30, go_sem, n0, n1, n2, n3, n4, n5, n6, n7, q0, q1, q2, q3, q4, q5, q6, q7, f1, f2, f3, f4, f5, f6, f7, g1, g2, g3, g4, g5, g6, g7]) rfl
    · intro a u hbu hsu hdu
      have q0 := (hbu.cell (p := ⟨b, off, none⟩) hlt).trans r0; have q1 := (hbu.cell (p := ⟨b, off + 1, none⟩) hlt).trans r1; have q2 := (hbu.cell (p := ⟨b, off + 2, none⟩) hlt).trans r2; have q3 := (hbu.cell (p := ⟨b, off + 3, none⟩) hlt).trans r3; have q4 := (hbu.cell (p := ⟨b, off + 4, none⟩) hlt).trans r4; have q5 := (hbu.cell (p := ⟨b, off + 5, none⟩) hlt).trans r5; have q6 := (hbu.cell (p := ⟨b, off + 6, none⟩) hlt).trans r6; have q7 := (hbu.cell (p := ⟨b, off + 7, none⟩) hlt).trans r7
      refine Mono.if_want rfl ?_
      have z31 : a.eval (.tmp 31) = .int .u8 (x1) := Mono.dep_at hdu (i := 6) (d := 31) rfl rfl rfl
      simp [Act.eval] at z31
      exact Mono.ok_val (.int .u64 (x1)) (by simp [execOp, z31, go_sem, n0, n1, n2, n3, n4, n5, n6, n7, q0, q1, q2, q3, q4, q5, q6, q7, f1, f2, f3, f4, f5, f6, f7, g1, g2, g3, g4, g5, g6, g7] <;> simp [convert, IntKind.wrap_u64, IntKind.wrap_i64] <;> omega) rfl
    · intro a u hbu hsu hdu
      have q0 := (hbu.cell (p := ⟨b, off, none⟩) hlt).trans r0; have q1 := (hbu.cell (p := ⟨b, off + 1, none⟩) hlt).trans r1; have q2 := (hbu.cell (p := ⟨b, off + 2, none⟩) hlt).trans r2; have q3 := (hbu.cell (p := ⟨b, off + 3, none⟩) hlt).trans r3; have q4 := (hbu.cell (p := ⟨b, off + 4, none⟩) hlt).trans r4; have q5 := (hbu.cell (p := ⟨b, off + 5, none⟩) hlt).trans r5; have q6 := (hbu.cell (p := ⟨b, off + 6, none⟩) hlt).trans r6; have q7 := (hbu.cell (p := ⟨b, off + 7, none⟩) hlt).trans r7
      refine Mono.if_want rfl ?_
      have z32 : a.eval (.tmp 32) = .int .u64 (x1) := Mono.dep_at hdu (i := 7) (d := 32) rfl rfl rfl
      simp [Act.eval] at z32
      exact Mono.ok_val (.int .u64 (x1 * 256)) (by simp [execOp, z32, go_sem, n0, n1, n2, n3, n4, n5, n6, n7, q0, q1, q2, q3, q4, q5, q6, q7, f1, f2, f3, f4, f5, f6, f7, g1, g2, g3, g4, g5, g6, g7]) rfl
    · intro a u hbu hsu hdu
      have q0 := (hbu.cell (p := ⟨b, off, none⟩) hlt).trans r0; have q1 := (hbu.cell (p := ⟨b, off + 1, none⟩) hlt).trans r1; have q2 := (hbu.cell (p := ⟨b, off + 2, none⟩) hlt).trans r2; have q3 := (hbu.cell (p := ⟨b, off + 3, none⟩) hlt).trans r3; have q4 := (hbu.cell (p := ⟨b, off + 4, none⟩) hlt).trans r4; have q5 := (hbu.cell (p := ⟨b, off + 5, none⟩) hlt).trans r5; have q6 := (hbu.cell (p := ⟨b, off + 6, none⟩) hlt).trans r6; have q7 := (hbu.cell (p := ⟨b, off + 7, none⟩) hlt).trans r7
      refine Mono.if_want rfl ?_
      have z28 : a.eval (.tmp 28) = .int .u64 (x0) := Mono.dep_at hdu (i := 3) (d := 28) rfl rfl rfl
      simp [Act.eval] at z28
      have z33 : a.eval (.tmp 33) = .int .u64 (x1 * 256) := Mono.dep_at hdu (i := 8) (d := 33) rfl rfl rfl
      simp [Act.eval] at z33
      exact Mono.ok_val (.int .u64 a1) (by simp [execOp, z28, z33, go_sem, n0, n1, n2, n3, n4, n5, n6, n7, q0, q1, q2, q3, q4, q5, q6, q7, f1, f2, f3, f4, f5, f6, f7, g1, g2, g3, g4, g5, g6, g7]) rfl
    · intro a u hbu hsu hdu
      have q0 := (hbu.cell (p := ⟨b, off, none⟩) hlt).trans r0; have q1 := (hbu.cell (p := ⟨b, off + 1, none⟩) hlt).trans r1; have q2 := (hbu.cell (p := ⟨b, off + 2, none⟩) hlt).trans r2; have q3 := (hbu.cell (p := ⟨b, off + 3, none⟩) hlt).trans r3; have q4 := (hbu.cell (p := ⟨b, off + 4, none⟩) hlt).trans r4; have q5 := (hbu.cell (p := ⟨b, off + 5, none⟩) hlt).trans r5; have q6 := (hbu.cell (p := ⟨b, off + 6, none⟩) hlt).trans r6; have q7 := (hbu.cell (p := ⟨b, off + 7, none⟩) hlt).trans r7
      refine Mono.if_want rfl ?_
      exact Mono.ok_move (.tmp 0) rfl (hsu 0 (by decide))
    · intro a u hbu hsu hdu
      have q0 := (hbu.cell (p := ⟨b, off, none⟩) hlt).trans r0; have q1 := (hbu.cell (p := ⟨b, off + 1, none⟩) hlt).trans r1; have q2 := (hbu.cell (p := ⟨b, off + 2, none⟩) hlt).trans r2; have q3 := (hbu.cell (p := ⟨b, off + 3, none⟩) hlt).trans r3; have q4 := (hbu.cell (p := ⟨b, off + 4, none⟩) hlt).trans r4; have q5 := (hbu.cell (p := ⟨b, off + 5, none⟩) hlt).trans r5; have q6 := (hbu.cell (p := ⟨b, off + 6, none⟩) hlt).trans r6; have q7 := (hbu.cell (p := ⟨b, off + 7, none⟩) hlt).trans r7
      refine Mono.if_want rfl ?_
      have z35 : a.eval (.tmp 35) = .slice (some ⟨b, off, none⟩) n c := Mono.dep_at hdu (i := 10) (d := 35) rfl rfl rfl
      simp [Act.eval] at z35
      exact Mono.ok_val (.pointer (some ⟨b, off + 2, none⟩)) (by simp [execOp, z35, go_sem, n0, n1, n2, n3, n4, n5, n6, n7, q0, q1, q2, q3, q4, q5, q6, q7, f1, f2, f3, f4, f5, f6, f7, g1, g2, g3, g4, g5, g6, g7]) rfl
    · intro a u hbu hsu hdu
      have q0 := (hbu.cell (p := ⟨b, off, none⟩) hlt).trans r0; have q1 := (hbu.cell (p := ⟨b, off + 1, none⟩) hlt).trans r1; have q2 := (hbu.cell (p := ⟨b, off + 2, none⟩) hlt).trans r2; have q3 := (hbu.cell (p := ⟨b, off + 3, none⟩) hlt).trans r3; have q4 := (hbu.cell (p := ⟨b, off + 4, none⟩) hlt).trans r4; have q5 := (hbu.cell (p := ⟨b, off + 5, none⟩) hlt).trans r5; have q6 := (hbu.cell (p := ⟨b, off + 6, none⟩) hlt).trans r6; have q7 := (hbu.cell (p := ⟨b, off + 7, none⟩) hlt).trans r7
      refine Mono.if_want rfl ?_
      have z36 : a.eval (.tmp 36) = .pointer (some ⟨b, off + 2, none⟩) := Mono.dep_at hdu (i := 11) (d := 36) rfl rfl rfl
      simp [Act.eval] at z36
      exact Mono.ok_val (.int .u8 (x2)) (by simp [execOp, z36, go_sem, n0, n1, n2, n3, n4, n5, n6, n7, q0, q1, q2, q3, q4, q5, q6, q7, f1, f2, f3, f4, f5, f6, f7, g1, g2, g3, g4, g5, g6, g7]) rfl
    · intro a u hbu hsu hdu
      have q0 := (hbu.cell (p := ⟨b, off, none⟩) hlt).trans r0; have q1 := (hbu.cell (p := ⟨b, off + 1, none⟩) hlt).trans r1; have q2 := (hbu.cell (p := ⟨b, off + 2, none⟩) hlt).trans r2; have q3 := (hbu.cell (p := ⟨b, off + 3, none⟩) hlt).trans r3; have q4 := (hbu.cell (p := ⟨b, off + 4, none⟩) hlt).trans r4; have q5 := (hbu.cell (p := ⟨b, off + 5, none⟩) hlt).trans r5; have q6 := (hbu.cell (p := ⟨b, off + 6, none⟩) hlt).trans r6; have q7 := (hbu.cell (p := ⟨b, off + 7, none⟩) hlt).trans r7
      refine Mono.if_want rfl ?_
      have z37 : a.eval (.tmp 37) = .int .u8 (x2) := Mono.dep_at hdu (i := 12) (d := 37) rfl rfl rfl
      simp [Act.eval] at z37
      exact Mono.ok_val (.int .u64 (x2)) (by simp [execOp, z37, go_sem, n0, n1, n2, n3, n4, n5, n6, n7, q0, q1, q2, q3, q4, q5, q6, q7, f1, f2, f3, f4, f5, f6, f7, g1, g2, g3, g4, g5, g6, g7] <;> simp [convert, IntKind.wrap_u64, IntKind.wrap_i64] <;> omega) rfl
    · intro a u hbu hsu hdu
      have q0 := (hbu.cell (p := ⟨b, off, none⟩) hlt).trans r0; have q1 := (hbu.cell (p := ⟨b, off + 1, none⟩) hlt).trans r1; have q2 := (hbu.cell (p := ⟨b, off + 2, none⟩) hlt).trans r2; have q3 := (hbu.cell (p := ⟨b, off + 3, none⟩) hlt).trans r3; have q4 := (hbu.cell (p := ⟨b, off + 4, none⟩) hlt).trans r4; have q5 := (hbu.cell (p := ⟨b, off + 5, none⟩) hlt).trans r5; have q6 := (hbu.cell (p := ⟨b, off + 6, none⟩) hlt).trans r6; have q7 := (hbu.cell (p := ⟨b, off + 7, none⟩) hlt).trans r7
      refine Mono.if_want rfl ?_
      have z38 : a.eval (.tmp 38) = .int .u64 (x2) := Mono.dep_at hdu (i := 13) (d := 38) rfl rfl rfl
      simp [Act.eval] at z38
      exact Mono.ok_val (.int .u64 (x2 * 65536)) (by simp [execOp, z38, go_sem, n0, n1, n2, n3, n4, n5, n6, n7, q0, q1, q2, q3, q4, q5, q6, q7, f1, f2, f3, f4, f5, f6, f7, g1, g2, g3, g4, g5, g6, g7]) rfl
    · intro a u hbu hsu hdu
      have q0 := (hbu.cell (p := ⟨b, off, none⟩) hlt).trans r0; have q1 := (hbu.cell (p := ⟨b, off + 1, none⟩) hlt).trans r1; have q2 := (hbu.cell (p := ⟨b, off + 2, none⟩) hlt).trans r2; have q3 := (hbu.cell (p := ⟨b, off + 3, none⟩) hlt).trans r3; have q4 := (hbu.cell (p := ⟨b, off + 4, none⟩) hlt).trans r4; have q5 := (hbu.cell (p := ⟨b, off + 5, none⟩) hlt).trans r5; have q6 := (hbu.cell (p := ⟨b, off + 6, none⟩) hlt).trans r6; have q7 := (hbu.cell (p := ⟨b, off + 7, none⟩) hlt).trans r7
      refine Mono.if_want rfl ?_
      have z34 : a.eval (.tmp 34) = .int .u64 a1 := Mono.dep_at hdu (i := 9) (d := 34) rfl rfl rfl
      simp [Act.eval] at z34
      have z39 : a.eval (.tmp 39) = .int .u64 (x2 * 65536) := Mono.dep_at hdu (i := 14) (d := 39) rfl rfl rfl
      simp [Act.eval] at z39
      exact Mono.ok_val (.int .u64 a2) (by simp [execOp, z34, z39, go_sem, n0, n1, n2, n3, n4, n5, n6, n7, q0, q1, q2, q3, q4, q5, q6, q7, f1, f2, f3, f4, f5, f6, f7, g1, g2, g3, g4, g5, g6, g7]) rfl
    · intro a u hbu hsu hdu
      have q0 := (hbu.cell (p := ⟨b, off, none⟩) hlt).trans r0; have q1 := (hbu.cell (p := ⟨b, off + 1, none⟩) hlt).trans r1; have q2 := (hbu.cell (p := ⟨b, off + 2, none⟩) hlt).trans r2; have q3 := (hbu.cell (p := ⟨b, off + 3, none⟩) hlt).trans r3; have q4 := (hbu.cell (p := ⟨b, off + 4, none⟩) hlt).trans r4; have q5 := (hbu.cell (p := ⟨b, off + 5, none⟩) hlt).trans r5; have q6 := (hbu.cell (p := ⟨b, off + 6, none⟩) hlt).trans r6; have q7 := (hbu.cell (p := ⟨b, off + 7, none⟩) hlt).trans r7
      refine Mono.if_want rfl ?_
      exact Mono.ok_move (.tmp 0) rfl (hsu 0 (by decide))
    · intro a u hbu hsu hdu
      have q0 := (hbu.cell (p := ⟨b, off, none⟩) hlt).trans r0; have q1 := (hbu.cell (p := ⟨b, off + 1, none⟩) hlt).trans r1; have q2 := (hbu.cell (p := ⟨b, off + 2, none⟩) hlt).trans r2; have q3 := (hbu.cell (p := ⟨b, off + 3, none⟩) hlt).trans r3; have q4 := (hbu.cell (p := ⟨b, off + 4, none⟩) hlt).trans r4; have q5 := (hbu.cell (p := ⟨b, off + 5, none⟩) hlt).trans r5; have q6 := (hbu.cell (p := ⟨b, off + 6, none⟩) hlt).trans r6; have q7 := (hbu.cell (p := ⟨b, off + 7, none⟩) hlt).trans r7
      refine Mono.if_want rfl ?_
      have z41 : a.eval (.tmp 41) = .slice (some ⟨b, off, none⟩) n c := Mono.dep_at hdu (i := 16) (d := 41) rfl rfl rfl
      simp [Act.eval] at z41
      exact Mono.ok_val (.pointer (some ⟨b, off + 3, none⟩)) (by simp [execOp, z41, go_sem, n0, n1, n2, n3, n4, n5, n6, n7, q0, q1, q2, q3, q4, q5, q6, q7, f1, f2, f3, f4, f5, f6, f7, g1, g2, g3, g4, g5, g6, g7]) rfl
    · intro a u hbu hsu hdu
      have q0 := (hbu.cell (p := ⟨b, off, none⟩) hlt).trans r0; have q1 := (hbu.cell (p := ⟨b, off + 1, none⟩) hlt).trans r1; have q2 := (hbu.cell (p := ⟨b, off + 2, none⟩) hlt).trans r2; have q3 := (hbu.cell (p := ⟨b, off + 3, none⟩) hlt).trans r3; have q4 := (hbu.cell (p := ⟨b, off + 4, none⟩) hlt).trans r4; have q5 := (hbu.cell (p := ⟨b, off + 5, none⟩) hlt).trans r5; have q6 := (hbu.cell (p := ⟨b, off + 6, none⟩) hlt).trans r6; have q7 := (hbu.cell (p := ⟨b, off + 7, none⟩) hlt).trans r7
      refine Mono.if_want rfl ?_
      have z42 : a.eval (.tmp 42) = .pointer (some ⟨b, off + 3, none⟩) := Mono.dep_at hdu (i := 17) (d := 42) rfl rfl rfl
      simp [Act.eval] at z42
      exact Mono.ok_val (.int .u8 (x3)) (by simp [execOp, z42, go_sem, n0, n1, n2, n3, n4, n5, n6, n7, q0, q1, q2, q3, q4, q5, q6, q7, f1, f2, f3, f4, f5, f6, f7, g1, g2, g3, g4, g5, g6, g7]) rfl
    · intro a u hbu hsu hdu
      have q0 := (hbu.cell (p := ⟨b, off, none⟩) hlt).trans r0; have q1 := (hbu.cell (p := ⟨b, off + 1, none⟩) hlt).trans r1; have q2 := (hbu.cell (p := ⟨b, off + 2, none⟩) hlt).trans r2; have q3 := (hbu.cell (p := ⟨b, off + 3, none⟩) hlt).trans r3; have q4 := (hbu.cell (p := ⟨b, off + 4, none⟩) hlt).trans r4; have q5 := (hbu.cell (p := ⟨b, off + 5, none⟩) hlt).trans r5; have q6 := (hbu.cell (p := ⟨b, off + 6, none⟩) hlt).trans r6; have q7 := (hbu.cell (p := ⟨b, off + 7, none⟩) hlt).trans r7
      refine Mono.if_want rfl ?_
      have z43 : a.eval (.tmp 43) = .int .u8 (x3) := Mono.dep_at hdu (i := 18) (d := 43) rfl rfl rfl
      simp [Act.eval] at z43
      exact Mono.ok_val (.int .u64 (x3)) (by simp [execOp, z43, go_sem, n0, n1, n2, n3, n4, n5, n6, n7, q0, q1, q2, q3, q4, q5, q6, q7, f1, f2, f3, f4, f5, f6, f7, g1, g2, g3, g4, g5, g6, g7] <;> simp [convert, IntKind.wrap_u64, IntKind.wrap_i64] <;> omega) rfl
    · intro a u hbu hsu hdu
      have q0 := (hbu.cell (p := ⟨b, off, none⟩) hlt).trans r0; have q1 := (hbu.cell (p := ⟨b, off + 1, none⟩) hlt).trans r1; have q2 := (hbu.cell (p := ⟨b, off + 2, none⟩) hlt).trans r2; have q3 := (hbu.cell (p := ⟨b, off + 3, none⟩) hlt).trans r3; have q4 := (hbu.cell (p := ⟨b, off + 4, none⟩) hlt).trans r4; have q5 := (hbu.cell (p := ⟨b, off + 5, none⟩) hlt).trans r5; have q6 := (hbu.cell (p := ⟨b, off + 6, none⟩) hlt).trans r6; have q7 := (hbu.cell (p := ⟨b, off + 7, none⟩) hlt).trans r7
      refine Mono.if_want rfl ?_
      have z44 : a.eval (.tmp 44) = .int .u64 (x3) := Mono.dep_at hdu (i := 19) (d := 44) rfl rfl rfl
      simp [Act.eval] at z44
      exact Mono.ok_val (.int .u64 (x3 * 16777216)) (by simp [execOp, z44, go_sem, n0, n1, n2, n3, n4, n5, n6, n7, q0, q1, q2, q3, q4, q5, q6, q7, f1, f2, f3, f4, f5, f6, f7, g1, g2, g3, g4, g5, g6, g7]) rfl
    · intro a u hbu hsu hdu
      have q0 := (hbu.cell (p := ⟨b, off, none⟩) hlt).trans r0; have q1 := (hbu.cell (p := ⟨b, off + 1, none⟩) hlt).trans r1; have q2 := (hbu.cell (p := ⟨b, off + 2, none⟩) hlt).trans r2; have q3 := (hbu.cell (p := ⟨b, off + 3, none⟩) hlt).trans r3; have q4 := (hbu.cell (p := ⟨b, off + 4, none⟩) hlt).trans r4; have q5 := (hbu.cell (p := ⟨b, off + 5, none⟩) hlt).trans r5; have q6 := (hbu.cell (p := ⟨b, off + 6, none⟩) hlt).trans r6; have q7 := (hbu.cell (p := ⟨b, off + 7, none⟩) hlt).trans r7
      refine Mono.if_want rfl ?_
      have z40 : a.eval (.tmp 40) = .int .u64 a2 := Mono.dep_at hdu (i := 15) (d := 40) rfl rfl rfl
      simp [Act.eval] at z40
      have z45 : a.eval (.tmp 45) = .int .u64 (x3 * 16777216) := Mono.dep_at hdu (i := 20) (d := 45) rfl rfl rfl
      simp [Act.eval] at z45
      exact Mono.ok_val (.int .u64 a3) (by simp [execOp, z40, z45, go_sem, n0, n1, n2, n3, n4, n5, n6, n7, q0, q1, q2, q3, q4, q5, q6, q7, f1, f2, f3, f4, f5, f6, f7, g1, g2, g3, g4, g5, g6, g7]) rfl
    · intro a u hbu hsu hdu
      have q0 := (hbu.cell (p := ⟨b, off, none⟩) hlt).trans r0; have q1 := (hbu.cell (p := ⟨b, off + 1, none⟩) hlt).trans r1; have q2 := (hbu.cell (p := ⟨b, off + 2, none⟩) hlt).trans r2; have q3 := (hbu.cell (p := ⟨b, off + 3, none⟩) hlt).trans r3; have q4 := (hbu.cell (p := ⟨b, off + 4, none⟩) hlt).trans r4; have q5 := (hbu.cell (p := ⟨b, off + 5, none⟩) hlt).trans r5; have q6 := (hbu.cell (p := ⟨b, off + 6, none⟩) hlt).trans r6; have q7 := (hbu.cell (p := ⟨b, off + 7, none⟩) hlt).trans r7
      refine Mono.if_want rfl ?_
      exact Mono.ok_move (.tmp 0) rfl (hsu 0 (by decide))
    · intro a u hbu hsu hdu
      have q0 := (hbu.cell (p := ⟨b, off, none⟩) hlt).trans r0; have q1 := (hbu.cell (p := ⟨b, off + 1, none⟩) hlt).trans r1; have q2 := (hbu.cell (p := ⟨b, off + 2, none⟩) hlt).trans r2; have q3 := (hbu.cell (p := ⟨b, off + 3, none⟩) hlt).trans r3; have q4 := (hbu.cell (p := ⟨b, off + 4, none⟩) hlt).trans r4; have q5 := (hbu.cell (p := ⟨b, off + 5, none⟩) hlt).trans r5; have q6 := (hbu.cell (p := ⟨b, off + 6, none⟩) hlt).trans r6; have q7 := (hbu.cell (p := ⟨b, off + 7, none⟩) hlt).trans r7
      refine Mono.if_want rfl ?_
      have z47 : a.eval (.tmp 47) = .slice (some ⟨b, off, none⟩) n c := Mono.dep_at hdu (i := 22) (d := 47) rfl rfl rfl
      simp [Act.eval] at z47
      exact Mono.ok_val (.pointer (some ⟨b, off + 4, none⟩)) (by simp [execOp, z47, go_sem, n0, n1, n2, n3, n4, n5, n6, n7, q0, q1, q2, q3, q4, q5, q6, q7, f1, f2, f3, f4, f5, f6, f7, g1, g2, g3, g4, g5, g6, g7]) rfl
    · intro a u hbu hsu hdu
      have q0 := (hbu.cell (p := ⟨b, off, none⟩) hlt).trans r0; have q1 := (hbu.cell (p := ⟨b, off + 1, none⟩) hlt).trans r1; have q2 := (hbu.cell (p := ⟨b, off + 2, none⟩) hlt).trans r2; have q3 := (hbu.cell (p := ⟨b, off + 3, none⟩) hlt).trans r3; have q4 := (hbu.cell (p := ⟨b, off + 4, none⟩) hlt).trans r4; have q5 := (hbu.cell (p := ⟨b, off + 5, none⟩) hlt).trans r5; have q6 := (hbu.cell (p := ⟨b, off + 6, none⟩) hlt).trans r6; have q7 := (hbu.cell (p := ⟨b, off + 7, none⟩) hlt).trans r7
      refine Mono.if_want rfl ?_
      have z48 : a.eval (.tmp 48) = .pointer (some ⟨b, off + 4, none⟩) := Mono.dep_at hdu (i := 23) (d := 48) rfl rfl rfl
      simp [Act.eval] at z48
      exact Mono.ok_val (.int .u8 (x4)) (by simp [execOp, z48, go_sem, n0, n1, n2, n3, n4, n5, n6, n7, q0, q1, q2, q3, q4, q5, q6, q7, f1, f2, f3, f4, f5, f6, f7, g1, g2, g3, g4, g5, g6, g7]) rfl
    · intro a u hbu hsu hdu
      have q0 := (hbu.cell (p := ⟨b, off, none⟩) hlt).trans r0; have q1 := (hbu.cell (p := ⟨b, off + 1, none⟩) hlt).trans r1; have q2 := (hbu.cell (p := ⟨b, off + 2, none⟩) hlt).trans r2; have q3 := (hbu.cell (p := ⟨b, off + 3, none⟩) hlt).trans r3; have q4 := (hbu.cell (p := ⟨b, off + 4, none⟩) hlt).trans r4; have q5 := (hbu.cell (p := ⟨b, off + 5, none⟩) hlt).trans r5; have q6 := (hbu.cell (p := ⟨b, off + 6, none⟩) hlt).trans r6; have q7 := (hbu.cell (p := ⟨b, off + 7, none⟩) hlt).trans r7
      refine Mono.if_want rfl ?_
      have z49 : a.eval (.tmp 49) = .int .u8 (x4) := Mono.dep_at hdu (i := 24) (d := 49) rfl rfl rfl
      simp [Act.eval] at z49
      exact Mono.ok_val (.int .u64 (x4)) (by simp [execOp, z49, go_sem, n0, n1, n2, n3, n4, n5, n6, n7, q0, q1, q2, q3, q4, q5, q6, q7, f1, f2, f3, f4, f5, f6, f7, g1, g2, g3, g4, g5, g6, g7] <;> simp [convert, IntKind.wrap_u64, IntKind.wrap_i64] <;> omega) rfl
    · intro a u hbu hsu hdu
      have q0 := (hbu.cell (p := ⟨b, off, none⟩) hlt).trans r0; have q1 := (hbu.cell (p := ⟨b, off + 1, none⟩) hlt).trans r1; have q2 := (hbu.cell (p := ⟨b, off + 2, none⟩) hlt).trans r2; have q3 := (hbu.cell (p := ⟨b, off + 3, none⟩) hlt).trans r3; have q4 := (hbu.cell (p := ⟨b, off + 4, none⟩) hlt).trans r4; have q5 := (hbu.cell (p := ⟨b, off + 5, none⟩) hlt).trans r5; have q6 := (hbu.cell (p := ⟨b, off + 6, none⟩) hlt).trans r6; have q7 := (hbu.cell (p := ⟨b, off + 7, none⟩) hlt).trans r7
      refine Mono.if_want rfl ?_
      have z50 : a.eval (.tmp 50) = .int .u64 (x4) := Mono.dep_at hdu (i := 25) (d := 50) rfl rfl rfl
      simp [Act.eval] at z50
      exact Mono.ok_val (.int .u64 (x4 * 4294967296)) (by simp [execOp, z50, go_sem, n0, n1, n2, n3, n4, n5, n6, n7, q0, q1, q2, q3, q4, q5, q6, q7, f1, f2, f3, f4, f5, f6, f7, g1, g2, g3, g4, g5, g6, g7]) rfl
    · intro a u hbu hsu hdu
      have q0 := (hbu.cell (p := ⟨b, off, none⟩) hlt).trans r0; have q1 := (hbu.cell (p := ⟨b, off + 1, none⟩) hlt).trans r1; have q2 := (hbu.cell (p := ⟨b, off + 2, none⟩) hlt).trans r2; have q3 := (hbu.cell (p := ⟨b, off + 3, none⟩) hlt).trans r3; have q4 := (hbu.cell (p := ⟨b, off + 4, none⟩) hlt).trans r4; have q5 := (hbu.cell (p := ⟨b, off + 5, none⟩) hlt).trans r5; have q6 := (hbu.cell (p := ⟨b, off + 6, none⟩) hlt).trans r6; have q7 := (hbu.cell (p := ⟨b, off + 7, none⟩) hlt).trans r7
      refine Mono.if_want rfl ?_
      have z46 : a.eval (.tmp 46) = .int .u64 a3 := Mono.dep_at hdu (i := 21) (d := 46) rfl rfl rfl
      simp [Act.eval] at z46
      have z51 : a.eval (.tmp 51) = .int .u64 (x4 * 4294967296) := Mono.dep_at hdu (i := 26) (d := 51) rfl rfl rfl
      simp [Act.eval] at z51
      exact Mono.ok_val (.int .u64 a4) (by simp [execOp, z46, z51, go_sem, n0, n1, n2, n3, n4, n5, n6, n7, q0, q1, q2, q3, q4, q5, q6, q7, f1, f2, f3, f4, f5, f6, f7, g1, g2, g3, g4, g5, g6, g7]) rfl
    · intro a u hbu hsu hdu
      have q0 := (hbu.cell (p := ⟨b, off, none⟩) hlt).trans r0; have q1 := (hbu.cell (p := ⟨b, off + 1, none⟩) hlt).trans r1; have q2 := (hbu.cell (p := ⟨b, off + 2, none⟩) hlt).trans r2; have q3 := (hbu.cell (p := ⟨b, off + 3, none⟩) hlt).trans r3; have q4 := (hbu.cell (p := ⟨b, off + 4, none⟩) hlt).trans r4; have q5 := (hbu.cell (p := ⟨b, off + 5, none⟩) hlt).trans r5; have q6 := (hbu.cell (p := ⟨b, off + 6, none⟩) hlt).trans r6; have q7 := (hbu.cell (p := ⟨b, off + 7, none⟩) hlt).trans r7
      refine Mono.if_want rfl ?_
      exact Mono.ok_move (.tmp 0) rfl (hsu 0 (by decide))
    · intro a u hbu hsu hdu
      have q0 := (hbu.cell (p := ⟨b, off, none⟩) hlt).trans r0; have q1 := (hbu.cell (p := ⟨b, off + 1, none⟩) hlt).trans r1; have q2 := (hbu.cell (p := ⟨b, off + 2, none⟩) hlt).trans r2; have q3 := (hbu.cell (p := ⟨b, off + 3, none⟩) hlt).trans r3; have q4 := (hbu.cell (p := ⟨b, off + 4, none⟩) hlt).trans r4; have q5 := (hbu.cell (p := ⟨b, off + 5, none⟩) hlt).trans r5; have q6 := (hbu.cell (p := ⟨b, off + 6, none⟩) hlt).trans r6; have q7 := (hbu.cell (p := ⟨b, off + 7, none⟩) hlt).trans r7
      refine Mono.if_want rfl ?_
      have z53 : a.eval (.tmp 53) = .slice (some ⟨b, off, none⟩) n c := Mono.dep_at hdu (i := 28) (d := 53) rfl rfl rfl
      simp [Act.eval] at z53
      exact Mono.ok_val (.pointer (some ⟨b, off + 5, none⟩)) (by simp [execOp, z53, go_sem, n0, n1, n2, n3, n4, n5, n6, n7, q0, q1, q2, q3, q4, q5, q6, q7, f1, f2, f3, f4, f5, f6, f7, g1, g2, g3, g4, g5, g6, g7]) rfl
    · intro a u hbu hsu hdu
      have q0 := (hbu.cell (p := ⟨b, off, none⟩) hlt).trans r0; have q1 := (hbu.cell (p := ⟨b, off + 1, none⟩) hlt).trans r1; have q2 := (hbu.cell (p := ⟨b, off + 2, none⟩) hlt).trans r2; have q3 := (hbu.cell (p := ⟨b, off + 3, none⟩) hlt).trans r3; have q4 := (hbu.cell (p := ⟨b, off + 4, none⟩) hlt).trans r4; have q5 := (hbu.cell (p := ⟨b, off + 5, none⟩) hlt).trans r5; have q6 := (hbu.cell (p := ⟨b, off + 6, none⟩) hlt).trans r6; have q7 := (hbu.cell (p := ⟨b, off + 7, none⟩) hlt).trans r7
      refine Mono.if_want rfl ?_
      have z54 : a.eval (.tmp 54) = .pointer (some ⟨b, off + 5, none⟩) := Mono.dep_at hdu (i := 29) (d := 54) rfl rfl rfl
      simp [Act.eval] at z54
      exact Mono.ok_val (.int .u8 (x5)) (by simp [execOp, z54, go_sem, n0, n1, n2, n3, n4, n5, n6, n7, q0, q1, q2, q3, q4, q5, q6, q7, f1, f2, f3, f4, f5, f6, f7, g1, g2, g3, g4, g5, g6, g7]) rfl
    · intro a u hbu hsu hdu
      have q0 := (hbu.cell (p := ⟨b, off, none⟩) hlt).trans r0; have q1 := (hbu.cell (p := ⟨b, off + 1, none⟩) hlt).trans r1; have q2 := (hbu.cell (p := ⟨b, off + 2, none⟩) hlt).trans r2; have q3 := (hbu.cell (p := ⟨b, off + 3, none⟩) hlt).trans r3; have q4 := (hbu.cell (p := ⟨b, off + 4, none⟩) hlt).trans r4; have q5 := (hbu.cell (p := ⟨b, off + 5, none⟩) hlt).trans r5; have q6 := (hbu.cell (p := ⟨b, off + 6, none⟩) hlt).trans r6; have q7 := (hbu.cell (p := ⟨b, off + 7, none⟩) hlt).trans r7
      refine Mono.if_want rfl ?_
      have z55 : a.eval (.tmp 55) = .int .u8 (x5) := Mono.dep_at hdu (i := 30) (d := 55) rfl rfl rfl
      simp [Act.eval] at z55
      exact Mono.ok_val (.int .u64 (x5)) (by simp [execOp, z55, go_sem, n0, n1, n2, n3, n4, n5, n6, n7, q0, q1, q2, q3, q4, q5, q6, q7, f1, f2, f3, f4, f5, f6, f7, g1, g2, g3, g4, g5, g6, g7] <;> simp [convert, IntKind.wrap_u64, IntKind.wrap_i64] <;> omega) rfl
    · intro a u hbu hsu hdu
      have q0 := (hbu.cell (p := ⟨b, off, none⟩) hlt).trans r0; have q1 := (hbu.cell (p := ⟨b, off + 1, none⟩) hlt).trans r1; have q2 := (hbu.cell (p := ⟨b, off + 2, none⟩) hlt).trans r2; have q3 := (hbu.cell (p := ⟨b, off + 3, none⟩) hlt).trans r3; have q4 := (hbu.cell (p := ⟨b, off + 4, none⟩) hlt).trans r4; have q5 := (hbu.cell (p := ⟨b, off + 5, none⟩) hlt).trans r5; have q6 := (hbu.cell (p := ⟨b, off + 6, none⟩) hlt).trans r6; have q7 := (hbu.cell (p := ⟨b, off + 7, none⟩) hlt).trans r7
      refine Mono.if_want rfl ?_
      have z56 : a.eval (.tmp 56) = .int .u64 (x5) := Mono.dep_at hdu (i := 31) (d := 56) rfl rfl rfl
      simp [Act.eval] at z56
      exact Mono.ok_val (.int .u64 (x5 * 1099511627776)) (by simp [execOp, z56, go_sem, n0, n1, n2, n3, n4, n5, n6, n7, q0, q1, q2, q3, q4, q5, q6, q7, f1, f2, f3, f4, f5, f6, f7, g1, g2, g3, g4, g5, g6, g7]) rfl
    · intro a u hbu hsu hdu
      have q0 := (hbu.cell (p := ⟨b, off, none⟩) hlt).trans r0; have q1 := (hbu.cell (p := ⟨b, off + 1, none⟩) hlt).trans r1; have q2 := (hbu.cell (p := ⟨b, off + 2, none⟩) hlt).trans r2; have q3 := (hbu.cell (p := ⟨b, off + 3, none⟩) hlt).trans r3; have q4 := (hbu.cell (p := ⟨b, off + 4, none⟩) hlt).trans r4; have q5 := (hbu.cell (p := ⟨b, off + 5, none⟩) hlt).trans r5; have q6 := (hbu.cell (p := ⟨b, off + 6, none⟩) hlt).trans r6; have q7 := (hbu.cell (p := ⟨b, off + 7, none⟩) hlt).trans r7
      refine Mono.if_want rfl ?_
      have z52 : a.eval (.tmp 52) = .int .u64 a4 := Mono.dep_at hdu (i := 27) (d := 52) rfl rfl rfl
      simp [Act.eval] at z52
      have z57 : a.eval (.tmp 57) = .int .u64 (x5 * 1099511627776) := Mono.dep_at hdu (i := 32) (d := 57) rfl rfl rfl
      simp [Act.eval] at z57
      exact Mono.ok_val (.int .u64 a5) (by simp [execOp, z52, z57, go_sem, n0, n1, n2, n3, n4, n5, n6, n7, q0, q1, q2, q3, q4, q5, q6, q7, f1, f2, f3, f4, f5, f6, f7, g1, g2, g3, g4, g5, g6, g7]) rfl
    · intro a u hbu hsu hdu
      have q0 := (hbu.cell (p := ⟨b, off, none⟩) hlt).trans r0; have q1 := (hbu.cell (p := ⟨b, off + 1, none⟩) hlt).trans r1; have q2 := (hbu.cell (p := ⟨b, off + 2, none⟩) hlt).trans r2; have q3 := (hbu.cell (p := ⟨b, off + 3, none⟩) hlt).trans r3; have q4 := (hbu.cell (p := ⟨b, off + 4, none⟩) hlt).trans r4; have q5 := (hbu.cell (p := ⟨b, off + 5, none⟩) hlt).trans r5; have q6 := (hbu.cell (p := ⟨b, off + 6, none⟩) hlt).trans r6; have q7 := (hbu.cell (p := ⟨b, off + 7, none⟩) hlt).trans r7
      refine Mono.if_want rfl ?_
      exact Mono.ok_move (.tmp 0) rfl (hsu 0 (by decide))
    · intro a u hbu hsu hdu
      have q0 := (hbu.cell (p := ⟨b, off, none⟩) hlt).trans r0; have q1 := (hbu.cell (p := ⟨b, off + 1, none⟩) hlt).trans r1; have q2 := (hbu.cell (p := ⟨b, off + 2, none⟩) hlt).trans r2; have q3 := (hbu.cell (p := ⟨b, off + 3, none⟩) hlt).trans r3; have q4 := (hbu.cell (p := ⟨b, off + 4, none⟩) hlt).trans r4; have q5 := (hbu.cell (p := ⟨b, off + 5, none⟩) hlt).trans r5; have q6 := (hbu.cell (p := ⟨b, off + 6, none⟩) hlt).trans r6; have q7 := (hbu.cell (p := ⟨b, off + 7, none⟩) hlt).trans r7
      refine Mono.if_want rfl ?_
      have z59 : a.eval (.tmp 59) = .slice (some ⟨b, off, none⟩) n c := Mono.dep_at hdu (i := 34) (d := 59) rfl rfl rfl
      simp [Act.eval] at z59
      exact Mono.ok_val (.pointer (some ⟨b, off + 6, none⟩)) (by simp [execOp, z59, go_sem, n0, n1, n2, n3, n4, n5, n6, n7, q0, q1, q2, q3, q4, q5, q6, q7, f1, f2, f3, f4, f5, f6, f7, g1, g2, g3, g4, g5, g6, g7]) rfl
    · intro a u hbu hsu hdu
      have q0 := (hbu.cell (p := ⟨b, off, none⟩) hlt).trans r0; have q1 := (hbu.cell (p := ⟨b, off + 1, none⟩) hlt).trans r1; have q2 := (hbu.cell (p := ⟨b, off + 2, none⟩) hlt).trans r2; have q3 := (hbu.cell (p := ⟨b, off + 3, none⟩) hlt).trans r3; have q4 := (hbu.cell (p := ⟨b, off + 4, none⟩) hlt).trans r4; have q5 := (hbu.cell (p := ⟨b, off + 5, none⟩) hlt).trans r5; have q6 := (hbu.cell (p := ⟨b, off + 6, none⟩) hlt).trans r6; have q7 := (hbu.cell (p := ⟨b, off + 7, none⟩) hlt).trans r7
      refine Mono.if_want rfl ?_
      have z60 : a.eval (.tmp 60) = .pointer (some ⟨b, off + 6, none⟩) := Mono.dep_at hdu (i := 35) (d := 60) rfl rfl rfl
      simp [Act.eval] at z60
      exact Mono.ok_val (.int .u8 (x6)) (by simp [execOp, z60, go_sem, n0, n1, n2, n3, n4, n5, n6, n7, q0, q1, q2, q3, q4, q5, q6, q7, f1, f2, f3, f4, f5, f6, f7, g1, g2, g3, g4, g5, g6, g7]) rfl
    · intro a u hbu hsu hdu
      have q0 := (hbu.cell (p := ⟨b, off, none⟩) hlt).trans r0; have q1 := (hbu.cell (p := ⟨b, off + 1, none⟩) hlt).trans r1; have q2 := (hbu.cell (p := ⟨b, off + 2, none⟩) hlt).trans r2; have q3 := (hbu.cell (p := ⟨b, off + 3, none⟩) hlt).trans r3; have q4 := (hbu.cell (p := ⟨b, off + 4, none⟩) hlt).trans r4; have q5 := (hbu.cell (p := ⟨b, off + 5, none⟩) hlt).trans r5; have q6 := (hbu.cell (p := ⟨b, off + 6, none⟩) hlt).trans r6; have q7 := (hbu.cell (p := ⟨b, off + 7, none⟩) hlt).trans r7
      refine Mono.if_want rfl ?_
      have z61 : a.eval (.tmp 61) = .int .u8 (x6) := Mono.dep_at hdu (i := 36) (d := 61) rfl rfl rfl
      simp [Act.eval] at z61
      exact Mono.ok_val (.int .u64 (x6)) (by simp [execOp, z61, go_sem, n0, n1, n2, n3, n4, n5, n6, n7, q0, q1, q2, q3, q4, q5, q6, q7, f1, f2, f3, f4, f5, f6, f7, g1, g2, g3, g4, g5, g6, g7] <;> simp [convert, IntKind.wrap_u64, IntKind.wrap_i64] <;> omega) rfl
    · intro a u hbu hsu hdu
      have q0 := (hbu.cell (p := ⟨b, off, none⟩) hlt).trans r0; have q1 := (hbu.cell (p := ⟨b, off + 1, none⟩) hlt).trans r1; have q2 := (hbu.cell (p := ⟨b, off + 2, none⟩) hlt).trans r2; have q3 := (hbu.cell (p := ⟨b, off + 3, none⟩) hlt).trans r3; have q4 := (hbu.cell (p := ⟨b, off + 4, none⟩) hlt).trans r4; have q5 := (hbu.cell (p := ⟨b, off + 5, none⟩) hlt).trans r5; have q6 := (hbu.cell (p := ⟨b, off + 6, none⟩) hlt).trans r6; have q7 := (hbu.cell (p := ⟨b, off + 7, none⟩) hlt).trans r7
      refine Mono.if_want rfl ?_
      have z62 : a.eval (.tmp 62) = .int .u64 (x6) := Mono.dep_at hdu (i := 37) (d := 62) rfl rfl rfl
      simp [Act.eval] at z62
      exact Mono.ok_val (.int .u64 (x6 * 281474976710656)) (by simp [execOp, z62, go_sem, n0, n1, n2, n3, n4, n5, n6, n7, q0, q1, q2, q3, q4, q5, q6, q7, f1, f2, f3, f4, f5, f6, f7, g1, g2, g3, g4, g5, g6, g7]) rfl
    · intro a u hbu hsu hdu
      have q0 := (hbu.cell (p := ⟨b, off, none⟩) hlt).trans r0; have q1 := (hbu.cell (p := ⟨b, off + 1, none⟩) hlt).trans r1; have q2 := (hbu.cell (p := ⟨b, off + 2, none⟩) hlt).trans r2; have q3 := (hbu.cell (p := ⟨b, off + 3, none⟩) hlt).trans r3; have q4 := (hbu.cell (p := ⟨b, off + 4, none⟩) hlt).trans r4; have q5 := (hbu.cell (p := ⟨b, off + 5, none⟩) hlt).trans r5; have q6 := (hbu.cell (p := ⟨b, off + 6, none⟩) hlt).trans r6; have q7 := (hbu.cell (p := ⟨b, off + 7, none⟩) hlt).trans r7
      refine Mono.if_want rfl ?_
      have z58 : a.eval (.tmp 58) = .int .u64 a5 := Mono.dep_at hdu (i := 33) (d := 58) rfl rfl rfl
      simp [Act.eval] at z58
      have z63 : a.eval (.tmp 63) = .int .u64 (x6 * 281474976710656) := Mono.dep_at hdu (i := 38) (d := 63) rfl rfl rfl
      simp [Act.eval] at z63
      exact Mono.ok_val (.int .u64 a6) (by simp [execOp, z58, z63, go_sem, n0, n1, n2, n3, n4, n5, n6, n7, q0, q1, q2, q3, q4, q5, q6, q7, f1, f2, f3, f4, f5, f6, f7, g1, g2, g3, g4, g5, g6, g7]) rfl
    · intro a u hbu hsu hdu
      have q0 := (hbu.cell (p := ⟨b, off, none⟩) hlt).trans r0; have q1 := (hbu.cell (p := ⟨b, off + 1, none⟩) hlt).trans r1; have q2 := (hbu.cell (p := ⟨b, off + 2, none⟩) hlt).trans r2; have q3 := (hbu.cell (p := ⟨b, off + 3, none⟩) hlt).trans r3; have q4 := (hbu.cell (p := ⟨b, off + 4, none⟩) hlt).trans r4; have q5 := (hbu.cell (p := ⟨b, off + 5, none⟩) hlt).trans r5; have q6 := (hbu.cell (p := ⟨b, off + 6, none⟩) hlt).trans r6; have q7 := (hbu.cell (p := ⟨b, off + 7, none⟩) hlt).trans r7
      refine Mono.if_want rfl ?_
      exact Mono.ok_move (.tmp 0) rfl (hsu 0 (by decide))
    · intro a u hbu hsu hdu
      have q0 := (hbu.cell (p := ⟨b, off, none⟩) hlt).trans r0; have q1 := (hbu.cell (p := ⟨b, off + 1, none⟩) hlt).trans r1; have q2 := (hbu.cell (p := ⟨b, off + 2, none⟩) hlt).trans r2; have q3 := (hbu.cell (p := ⟨b, off + 3, none⟩) hlt).trans r3; have q4 := (hbu.cell (p := ⟨b, off + 4, none⟩) hlt).trans r4; have q5 := (hbu.cell (p := ⟨b, off + 5, none⟩) hlt).trans r5; have q6 := (hbu.cell (p := ⟨b, off + 6, none⟩) hlt).trans r6; have q7 := (hbu.cell (p := ⟨b, off + 7, none⟩) hlt).trans r7
      refine Mono.if_want rfl ?_
      have z65 : a.eval (.tmp 65) = .slice (some ⟨b, off, none⟩) n c := Mono.dep_at hdu (i := 40) (d := 65) rfl rfl rfl
      simp [Act.eval] at z65
      exact Mono.ok_val (.pointer (some ⟨b, off + 7, none⟩)) (by simp [execOp, z65, go_sem, n0, n1, n2, n3, n4, n5, n6, n7, q0, q1, q2, q3, q4, q5, q6, q7, f1, f2, f3, f4, f5, f6, f7, g1, g2, g3, g4, g5, g6, g7]) rfl
    · intro a u hbu hsu hdu
      have q0 := (hbu.cell (p := ⟨b, off, none⟩) hlt).trans r0; have q1 := (hbu.cell (p := ⟨b, off + 1, none⟩) hlt).trans r1; have q2 := (hbu.cell (p := ⟨b, off + 2, none⟩) hlt).trans r2; have q3 := (hbu.cell (p := ⟨b, off + 3, none⟩) hlt).trans r3; have q4 := (hbu.cell (p := ⟨b, off + 4, none⟩) hlt).trans r4; have q5 := (hbu.cell (p := ⟨b, off + 5, none⟩) hlt).trans r5; have q6 := (hbu.cell (p := ⟨b, off + 6, none⟩) hlt).trans r6; have q7 := (hbu.cell (p := ⟨b, off + 7, none⟩) hlt).trans r7
      refine Mono.if_want rfl ?_
      have z66 : a.eval (.tmp 66) = .pointer (some ⟨b, off + 7, none⟩) := Mono.dep_at hdu (i := 41) (d := 66) rfl rfl rfl
      simp [Act.eval] at z66
      exact Mono.ok_val (.int .u8 (x7)) (by simp [execOp, z66, go_sem, n0, n1, n2, n3, n4, n5, n6, n7, q0, q1, q2, q3, q4, q5, q6, q7, f1, f2, f3, f4, f5, f6, f7, g1, g2, g3, g4, g5, g6, g7]) rfl
    · intro a u hbu hsu hdu
      have q0 := (hbu.cell (p := ⟨b, off, none⟩) hlt).trans r0; have q1 := (hbu.cell (p := ⟨b, off + 1, none⟩) hlt).trans r1; have q2 := (hbu.cell (p := ⟨b, off + 2, none⟩) hlt).trans r2; have q3 := (hbu.cell (p := ⟨b, off + 3, none⟩) hlt).trans r3; have q4 := (hbu.cell (p := ⟨b, off + 4, none⟩) hlt).trans r4; have q5 := (hbu.cell (p := ⟨b, off + 5, none⟩) hlt).trans r5; have q6 := (hbu.cell (p := ⟨b, off + 6, none⟩) hlt).trans r6; have q7 := (hbu.cell (p := ⟨b, off + 7, none⟩) hlt).trans r7
      refine Mono.if_want rfl ?_
      have z67 : a.eval (.tmp 67) = .int .u8 (x7) := Mono.dep_at hdu (i := 42) (d := 67) rfl rfl rfl
      simp [Act.eval] at z67
      exact Mono.ok_val (.int .u64 (x7)) (by simp [execOp, z67, go_sem, n0, n1, n2, n3, n4, n5, n6, n7, q0, q1, q2, q3, q4, q5, q6, q7, f1, f2, f3, f4, f5, f6, f7, g1, g2, g3, g4, g5, g6, g7] <;> simp [convert, IntKind.wrap_u64, IntKind.wrap_i64] <;> omega) rfl
    · intro a u hbu hsu hdu
      have q0 := (hbu.cell (p := ⟨b, off, none⟩) hlt).trans r0; have q1 := (hbu.cell (p := ⟨b, off + 1, none⟩) hlt).trans r1; have q2 := (hbu.cell (p := ⟨b, off + 2, none⟩) hlt).trans r2; have q3 := (hbu.cell (p := ⟨b, off + 3, none⟩) hlt).trans r3; have q4 := (hbu.cell (p := ⟨b, off + 4, none⟩) hlt).trans r4; have q5 := (hbu.cell (p := ⟨b, off + 5, none⟩) hlt).trans r5; have q6 := (hbu.cell (p := ⟨b, off + 6, none⟩) hlt).trans r6; have q7 := (hbu.cell (p := ⟨b, off + 7, none⟩) hlt).trans r7
      refine Mono.if_want rfl ?_
      have z68 : a.eval (.tmp 68) = .int .u64 (x7) := Mono.dep_at hdu (i := 43) (d := 68) rfl rfl rfl
      simp [Act.eval] at z68
      exact Mono.ok_val (.int .u64 (x7 * 72057594037927936)) (by simp [execOp, z68, go_sem, n0, n1, n2, n3, n4, n5, n6, n7, q0, q1, q2, q3, q4, q5, q6, q7, f1, f2, f3, f4, f5, f6, f7, g1, g2, g3, g4, g5, g6, g7]) rfl
    · intro a u hbu hsu hdu
      have q0 := (hbu.cell (p := ⟨b, off, none⟩) hlt).trans r0; have q1 := (hbu.cell (p := ⟨b, off + 1, none⟩) hlt).trans r1; have q2 := (hbu.cell (p := ⟨b, off + 2, none⟩) hlt).trans r2; have q3 := (hbu.cell (p := ⟨b, off + 3, none⟩) hlt).trans r3; have q4 := (hbu.cell (p := ⟨b, off + 4, none⟩) hlt).trans r4; have q5 := (hbu.cell (p := ⟨b, off + 5, none⟩) hlt).trans r5; have q6 := (hbu.cell (p := ⟨b, off + 6, none⟩) hlt).trans r6; have q7 := (hbu.cell (p := ⟨b, off + 7, none⟩) hlt).trans r7
      refine Mono.if_want rfl ?_
      have z64 : a.eval (.tmp 64) = .int .u64 a6 := Mono.dep_at hdu (i := 39) (d := 64) rfl rfl rfl
      simp [Act.eval] at z64
      have z69 : a.eval (.tmp 69) = .int .u64 (x7 * 72057594037927936) := Mono.dep_at hdu (i := 44) (d := 69) rfl rfl rfl
      simp [Act.eval] at z69
      exact Mono.ok_val (.int .u64 a7) (by simp [execOp, z64, z69, go_sem, n0, n1, n2, n3, n4, n5, n6, n7, q0, q1, q2, q3, q4, q5, q6, q7, f1, f2, f3, f4, f5, f6, f7, g1, g2, g3, g4, g5, g6, g7]) rfl
    · intro a u hbu hsu hdu
      have q0 := (hbu.cell (p := ⟨b, off, none⟩) hlt).trans r0; have q1 := (hbu.cell (p := ⟨b, off + 1, none⟩) hlt).trans r1; have q2 := (hbu.cell (p := ⟨b, off + 2, none⟩) hlt).trans r2; have q3 := (hbu.cell (p := ⟨b, off + 3, none⟩) hlt).trans r3; have q4 := (hbu.cell (p := ⟨b, off + 4, none⟩) hlt).trans r4; have q5 := (hbu.cell (p := ⟨b, off + 5, none⟩) hlt).trans r5; have q6 := (hbu.cell (p := ⟨b, off + 6, none⟩) hlt).trans r6; have q7 := (hbu.cell (p := ⟨b, off + 7, none⟩) hlt).trans r7
      refine Mono.if_want rfl ?_
      exact Mono.ok_assign (.tmp 70) rfl (Mono.dep_at hdu (i := 45) (d := 70) rfl rfl rfl)
  intro u hu
  simp only [Mono.Fin]
  rintro _ rfl _ rfl _ rfl _ rfl _ rfl _ rfl _ rfl _ rfl _ rfl _ rfl _ rfl _ rfl _ rfl _ rfl _ rfl _ rfl _ rfl _ rfl _ rfl _ rfl _ rfl _ rfl _ rfl _ rfl _ rfl _ rfl _ rfl _ rfl _ rfl _ rfl _ rfl _ rfl _ rfl _ rfl _ rfl _ rfl _ rfl _ rfl _ rfl _ rfl _ rfl _ rfl _ rfl _ rfl _ rfl _ rfl _ rfl
  have hbf := hu
  simp [Act.put]
  go_wp2
  go_ret
  exact ⟨rfl, hbf⟩
end Go.Proofs.YtjfmahodbdianaaDoor.Utf
/-
  utf8.word of a slice: a number whose high bits tell which bytes are ASCII. No walk.
-/
namespace Go.Proofs.YtjfmahodbdianaaDoor.Utf
open Go.RowKit Mem Cells Ops
set_option linter.unusedVariables false

def accN (x : Nat → Nat) : Nat → Nat
  | 0 => x 0
  | k + 1 => accN x k ||| (x (k + 1) * 256 ^ (k + 1))
theorem pow256 (k : Nat) : 256 ^ k = 2 ^ (8 * k) := by rw [Nat.pow_mul]
theorem accN_lt (x : Nat → Nat) (hx : ∀ i, x i < 256) : ∀ k, accN x k < 2 ^ (8 * (k + 1))
  | 0 => hx 0
  | k + 1 => by
    refine Nat.or_lt_two_pow (Nat.lt_of_lt_of_le (accN_lt x hx k) (Nat.pow_le_pow_right (by decide) (by omega))) ?_
    rw [pow256, show 8 * (k + 1 + 1) = 8 + 8 * (k + 1) by omega, Nat.pow_add]
    exact Nat.mul_lt_mul_of_pos_right (hx _) (Nat.two_pow_pos _)
theorem bit7 (x : Nat) (h : x < 256) (hb : x.testBit 7 = false) : x < 128 := by
  rcases Nat.lt_or_ge x 128 with h1 | h1
  · exact h1
  · exfalso
    have : x.testBit 7 = true := by
      rw [Nat.testBit_eq_decide_div_mod_eq]
      have : x / 2 ^ 7 % 2 = 1 := by omega
      simp [this]
    rw [this] at hb
    cases hb
theorem accN_bit (x : Nat → Nat) (hx : ∀ i, x i < 256) (i : Nat) : ∀ k, i ≤ k → (accN x k).testBit (8 * i + 7) = false → x i < 128
  | 0, hk, h => by
    obtain rfl : i = 0 := by omega
    exact bit7 _ (hx 0) h
  | k + 1, hk, h => by
    rw [accN, Nat.testBit_or, Bool.or_eq_false_iff] at h
    by_cases e : i = k + 1
    · subst e
      have h2 := h.2
      rw [pow256, ← Nat.shiftLeft_eq, Nat.testBit_shiftLeft] at h2
      have e1 : 8 * (k + 1) + 7 - 8 * (k + 1) = 7 := by omega
      rw [e1] at h2
      simp at h2
      exact bit7 _ (hx _) h2
    · exact accN_bit x hx i k (by omega) h.1
/-- The number's high bits tell which of the first eight bytes are ASCII. -/
def Wd (z : Nat) (xs : List Int) : Prop := z < 18446744073709551616 ∧ ∀ i, i < 8 → z.testBit (8 * i + 7) = false → xs.getD i 0 < 128
theorem low_of {z : Nat} (h : z &&& 9259542123273814144 = 0) (i : Nat) (hi : i < 8) : z.testBit (8 * i + 7) = false := by
  have h1 : (z &&& 9259542123273814144).testBit (8 * i + 7) = false := by rw [h]; simp
  rw [Nat.testBit_and] at h1
  have h2 : (9259542123273814144 : Nat).testBit (8 * i + 7) = true := by
    match i, hi with
    | 0, _ => decide
    | 1, _ => decide
    | 2, _ => decide
    | 3, _ => decide
    | 4, _ => decide
    | 5, _ => decide
    | 6, _ => decide
    | 7, _ => decide
  rw [h2, Bool.and_true] at h1
  exact h1
theorem or_step (x : Nat → Nat) (hx : ∀ i, x i < 256) (k : Nat) (hk : k < 7) (m : Int) (hm : m = ((256 ^ (k + 1) : Nat) : Int)) : bits .or .u64 ((accN x k : Nat) : Int) (((x (k + 1) : Nat) : Int) * m) = ((accN x (k + 1) : Nat) : Int) := by
  have h1 : accN x k < 18446744073709551616 := Nat.lt_of_lt_of_le (accN_lt x hx k) (Nat.le_trans (Nat.pow_le_pow_right (by decide) (show 8 * (k + 1) ≤ 64 by omega)) (by decide))
  have h2 : x (k + 1) * 256 ^ (k + 1) < 18446744073709551616 := by
    have h3 : x (k + 1) * 256 ^ (k + 1) < 2 ^ (8 * (k + 2)) := by
      rw [pow256, show 8 * (k + 2) = 8 + 8 * (k + 1) by omega, Nat.pow_add]
      exact Nat.mul_lt_mul_of_pos_right (hx _) (Nat.two_pow_pos _)
    exact Nat.lt_of_lt_of_le h3 (Nat.le_trans (Nat.pow_le_pow_right (by decide) (show 8 * (k + 2) ≤ 64 by omega)) (by decide))
  rw [hm, ← Int.natCast_mul, bits_or_u64_nat _ _ h1 h2]
  rfl
theorem word (v : Value) (xs : List Int) (w : World) (hr : Reads .u8 w v xs) (hx : ∀ x ∈ xs, 0 ≤ x ∧ x ≤ 255) (hl : 8 ≤ xs.length) : Calls Tryd.prog 40 #[v] w fun e w' => ∃ z : Nat, e = .returned (.int .u64 z) ∧ Wd z xs ∧ Below w.heap.size w w' := by
  obtain ⟨p, c, rfl, h1, h2, h3, h4⟩ := hr
  obtain ⟨b, off, rfl, hlt, hc⟩ := h4 (by omega)
  have hm : xs.length ≤ 9223372036854775807 := by unfold maxLen at h2; omega
  have hb : ∀ i, i < xs.length → 0 ≤ xs.getD i 0 ∧ xs.getD i 0 ≤ 255 := fun i hi => by
    rw [List.getD_eq_getElem?_getD, List.getElem?_eq_getElem hi]
    exact hx _ (List.getElem_mem hi)
  obtain ⟨x, hxe⟩ : ∃ x : Nat → Nat, ∀ i, i < xs.length → ((x i : Nat) : Int) = xs.getD i 0 := ⟨fun i => (xs.getD i 0).toNat, fun i hi => by have := hb i hi; show (((xs.getD i 0).toNat : Nat) : Int) = xs.getD i 0; omega⟩
  obtain ⟨y, hye⟩ : ∃ y : Nat → Nat, (∀ i, y i < 256) ∧ ∀ i, i < xs.length → ((y i : Nat) : Int) = xs.getD i 0 :=
    ⟨fun i => x i % 256, fun i => Nat.mod_lt _ (by decide), fun i hi => by
      have k1 := hxe i hi
      have k2 := hb i hi
      rw [← k1] at k2
      have e : x i < 256 := by omega
      show ((x i % 256 : Nat) : Int) = _
      rw [Nat.mod_eq_of_lt e]
      exact k1⟩
  have cell : ∀ i, i < 8 → w.cell? ⟨b, off + i, none⟩ = some (.int .u8 (y i)) := fun i hi => by rw [hye.2 i (by omega)]; exact hc i (by omega)
  have bd : ∀ i, (0 : Int) ≤ (y i : Int) ∧ (y i : Int) ≤ 255 := fun i => by have := hye.1 i; omega
  refine (word8 b off xs.length c (y 0) (y 1) (y 2) (y 3) (y 4) (y 5) (y 6) (y 7) (accN y 1) (accN y 2) (accN y 3) (accN y 4) (accN y 5) (accN y 6) (accN y 7) w hl hm hlt
    (cell 0 (by omega)) (bd 0) (cell 1 (by omega)) (bd 1) (cell 2 (by omega)) (bd 2) (cell 3 (by omega)) (bd 3) (cell 4 (by omega)) (bd 4) (cell 5 (by omega)) (bd 5) (cell 6 (by omega)) (bd 6) (cell 7 (by omega)) (bd 7)
    (or_step y hye.1 0 (by omega) _ rfl) (or_step y hye.1 1 (by omega) _ rfl) (or_step y hye.1 2 (by omega) _ rfl) (or_step y hye.1 3 (by omega) _ rfl) (or_step y hye.1 4 (by omega) _ rfl) (or_step y hye.1 5 (by omega) _ rfl) (or_step y hye.1 6 (by omega) _ rfl)).mono ?_
  rintro e w' ⟨rfl, hbel⟩
  refine ⟨accN y 7, rfl, ⟨accN_lt y hye.1 7, fun i hi h => ?_⟩, hbel⟩
  have := accN_bit y hye.1 i 7 (by omega) h
  have := hye.2 i (by omega)
  omega
end Go.Proofs.YtjfmahodbdianaaDoor.Utf
/-
  utf8.word of a slice, as a call that only draws (quiet).
-/
namespace Go.Proofs.YtjfmahodbdianaaDoor.Utf
open Go.RowKit Mem Cells Ops
set_option linter.unusedVariables false
set_option linter.unusedSimpArgs false
set_option maxRecDepth 100000 in
set_option maxHeartbeats 1600000 in
theorem word8q (b off n c : Nat) (x0 x1 x2 x3 x4 x5 x6 x7 a1 a2 a3 a4 a5 a6 a7 : Int) (w : World) (hn : 8 ≤ n) (hnm : n ≤ 9223372036854775807) (r0 : w.cell? ⟨b, off, none⟩ = some (.int .u8 x0)) (h0 : 0 ≤ x0 ∧ x0 ≤ 255) (r1 : w.cell? ⟨b, off + 1, none⟩ = some (.int .u8 x1)) (h1 : 0 ≤ x1 ∧ x1 ≤ 255) (r2 : w.cell? ⟨b, off + 2, none⟩ = some (.int .u8 x2)) (h2 : 0 ≤ x2 ∧ x2 ≤ 255) (r3 : w.cell? ⟨b, off + 3, none⟩ = some (.int .u8 x3)) (h3 : 0 ≤ x3 ∧ x3 ≤ 255) (r4 : w.cell? ⟨b, off + 4, none⟩ = some (.int .u8 x4)) (h4 : 0 ≤ x4 ∧ x4 ≤ 255) (r5 : w.cell? ⟨b, off + 5, none⟩ = some (.int .u8 x5)) (h5 : 0 ≤ x5 ∧ x5 ≤ 255) (r6 : w.cell? ⟨b, off + 6, none⟩ = some (.int .u8 x6)) (h6 : 0 ≤ x6 ∧ x6 ≤ 255) (r7 : w.cell? ⟨b, off + 7, none⟩ = some (.int .u8 x7)) (h7 : 0 ≤ x7 ∧ x7 ≤ 255) (g1 : bits .or .u64 x0 (x1 * 256) = a1) (g2 : bits .or .u64 a1 (x2 * 65536) = a2) (g3 : bits .or .u64 a2 (x3 * 16777216) = a3) (g4 : bits .or .u64 a3 (x4 * 4294967296) = a4) (g5 : bits .or .u64 a4 (x5 * 1099511627776) = a5) (g6 : bits .or .u64 a5 (x6 * 281474976710656) = a6) (g7 : bits .or .u64 a6 (x7 * 72057594037927936) = a7) :
    Calls Tryd.prog 40 #[.slice (some ⟨b, off, none⟩) n c] w fun e w' => e = .returned (.int .u64 a7) ∧ ∃ q, w' = w.drewN q := by
  have f1 : IntKind.u64.wrap (x1 * 256) = x1 * 256 := by rw [IntKind.wrap_u64]; omega
  have f2 : IntKind.u64.wrap (x2 * 65536) = x2 * 65536 := by rw [IntKind.wrap_u64]; omega
  have f3 : IntKind.u64.wrap (x3 * 16777216) = x3 * 16777216 := by rw [IntKind.wrap_u64]; omega
  have f4 : IntKind.u64.wrap (x4 * 4294967296) = x4 * 4294967296 := by rw [IntKind.wrap_u64]; omega
  have f5 : IntKind.u64.wrap (x5 * 1099511627776) = x5 * 1099511627776 := by rw [IntKind.wrap_u64]; omega
  have f6 : IntKind.u64.wrap (x6 * 281474976710656) = x6 * 281474976710656 := by rw [IntKind.wrap_u64]; omega
  have f7 : IntKind.u64.wrap (x7 * 72057594037927936) = x7 * 72057594037927936 := by rw [IntKind.wrap_u64]; omega
  have n0 : (0 : Int) < (n : Int) := by omega
  have n1 : (1 : Int) < (n : Int) := by omega
  have n2 : (2 : Int) < (n : Int) := by omega
  have n3 : (3 : Int) < (n : Int) := by omega
  have n4 : (4 : Int) < (n : Int) := by omega
  have n5 : (5 : Int) < (n : Int) := by omega
  have n6 : (6 : Int) < (n : Int) := by omega
  have n7 : (7 : Int) < (n : Int) := by omega
  go_enter Tryd.func40, Tryd.ntmps40
  go_wp2_with fail
  go_big_quiet (fail)
  go_wp2
  go_ret
  refine ⟨?_, _, rfl⟩
  simp [f1, f2, f3, f4, f5, f6, f7, g1, g2, g3, g4, g5, g6, g7]

def Cl (w : World) (b off n : Nat) (xs : List Int) : Prop := ∀ i, i < n → w.cell? ⟨b, off + i, none⟩ = some (.int .u8 (xs.getD i 0))
theorem Cl.drop {w : World} {b off n : Nat} {xs : List Int} (h : Cl w b off n xs) (k : Nat) : Cl w b (off + k) (n - k) (xs.drop k) := fun i hi => by
  have := h (k + i) (by omega)
  rw [← Nat.add_assoc] at this
  simpa [List.getD_eq_getElem?_getD] using this
theorem Cl.below {w u : World} {b off n : Nat} {xs : List Int} (h : Cl w b off n xs) (hlt : b < w.heap.size) (hb : Below w.heap.size w u) : Cl u b off n xs := fun i hi => (hb.cell (p := ⟨b, off + i, none⟩) hlt).trans (h i hi)
theorem Cl.drewN {w : World} {b off n : Nat} {xs : List Int} (h : Cl w b off n xs) (q : Nat) : Cl (w.drewN q) b off n xs := fun i hi => h i hi
theorem below_drewN {B : Nat} {a w : World} (h : Below B a w) : ∀ q, Below B a (w.drewN q)
  | 0 => h
  | q + 1 => (below_drewN h q).drew
theorem wordq (b off n c : Nat) (xs : List Int) (w : World) (hl : 8 ≤ n) (hn : n = xs.length) (hnm : n ≤ 9223372036854775807) (hc : Cl w b off n xs) (hx : ∀ x ∈ xs, 0 ≤ x ∧ x ≤ 255) :
    ∃ z : Nat, Wd z xs ∧ ∀ q, Calls Tryd.prog 40 #[.slice (some ⟨b, off, none⟩) n c] (w.drewN q) fun e w' => e = .returned (.int .u64 z) ∧ ∃ q', w' = (w.drewN q).drewN q' := by
  have hb : ∀ i, i < n → 0 ≤ xs.getD i 0 ∧ xs.getD i 0 ≤ 255 := fun i hi => by
    rw [List.getD_eq_getElem?_getD, List.getElem?_eq_getElem (by omega)]
    exact hx _ (List.getElem_mem (by omega))
  obtain ⟨y, hye⟩ : ∃ y : Nat → Nat, (∀ i, y i < 256) ∧ ∀ i, i < n → ((y i : Nat) : Int) = xs.getD i 0 :=
    ⟨fun i => (xs.getD i 0).toNat % 256, fun i => Nat.mod_lt _ (by decide), fun i hi => by
      have k2 := hb i hi
      show (((xs.getD i 0).toNat % 256 : Nat) : Int) = _
      omega⟩
  refine ⟨accN y 7, ⟨accN_lt y hye.1 7, fun i hi h => ?_⟩, fun q => ?_⟩
  · have := accN_bit y hye.1 i 7 (by omega) h
    have := hye.2 i (by omega)
    omega
  have cell : ∀ i, i < 8 → (w.drewN q).cell? ⟨b, off + i, none⟩ = some (.int .u8 (y i)) := fun i hi => by rw [hye.2 i (by omega)]; exact hc i (by omega)
  have bd : ∀ i, (0 : Int) ≤ (y i : Int) ∧ (y i : Int) ≤ 255 := fun i => by have := hye.1 i; omega
  exact word8q b off n c (y 0) (y 1) (y 2) (y 3) (y 4) (y 5) (y 6) (y 7) (accN y 1) (accN y 2) (accN y 3) (accN y 4) (accN y 5) (accN y 6) (accN y 7) (w.drewN q) hl hnm
    (cell 0 (by omega)) (bd 0) (cell 1 (by omega)) (bd 1) (cell 2 (by omega)) (bd 2) (cell 3 (by omega)) (bd 3) (cell 4 (by omega)) (bd 4) (cell 5 (by omega)) (bd 5) (cell 6 (by omega)) (bd 6) (cell 7 (by omega)) (bd 7)
    (or_step y hye.1 0 (by omega) _ rfl) (or_step y hye.1 1 (by omega) _ rfl) (or_step y hye.1 2 (by omega) _ rfl) (or_step y hye.1 3 (by omega) _ rfl) (or_step y hye.1 4 (by omega) _ rfl) (or_step y hye.1 5 (by omega) _ rfl) (or_step y hye.1 6 (by omega) _ rfl)
/-- All the first k bytes are ASCII. -/
def Asc (k : Nat) (xs : List Int) : Prop := ∀ i, i < k → xs.getD i 0 < 128
theorem Asc.of_word {z : Nat} {xs : List Int} (h : Wd z xs) (hz : z &&& 9259542123273814144 = 0) : Asc 8 xs := fun i hi => h.2 i hi (low_of hz i hi)
theorem Asc.add {j k : Nat} {xs : List Int} (h : Asc j xs) (h' : Asc k (xs.drop j)) : Asc (j + k) xs := fun i hi => by
  by_cases e : i < j
  · exact h i e
  · have := h' (i - j) (by omega)
    simpa [List.getD_eq_getElem?_getD, show j + (i - j) = i by omega] using this
theorem or_mask {a b m : Nat} (h : (a ||| b) &&& m = 0) : a &&& m = 0 ∧ b &&& m = 0 := by
  rw [Nat.and_or_distrib_right] at h
  exact Nat.or_eq_zero_iff.1 h
end Go.Proofs.YtjfmahodbdianaaDoor.Utf
