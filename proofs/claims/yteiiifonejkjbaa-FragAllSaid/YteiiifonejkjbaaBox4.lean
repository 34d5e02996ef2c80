/-
  Contracts: Box.Put of whatever piece; NewBox (15); Held (19).
-/
import Derived.Test.YteiiifonejkjbaaPut1
namespace Go.Proofs.Yteiiifonejkjbaa.Bx
open Go.RowKit Mem Cells Ops Pcs Go.Maps Go.Proofs.Yteiiifonejkjbaa.Open
set_option linter.unusedVariables false
set_option linter.unusedSimpArgs false
attribute [local go_sem] Oper.semAt_some

theorem put {w : World} {Z g b1 b2 : Nat} {x : S} (H : Box Z w g b1 b2 x) (p : A) (d : Value) (hr : Reads .u8 w d p.data) (hok : p.ok) (hwl : x.wait.length ≤ 999990) (hZ : Z ≤ w.heap.size) :
    Calls Try.prog 16 #[.pointer (some ⟨g, 0, none⟩), .agg (row p d).toArray] w (PutIs Z w g b1 b2 x p) := by
  cases hb : badF p with
  | true => exact put_bad H p d hr hok hb
  | false =>
    obtain ⟨vs, vw, m1, m2, h⟩ := H
    exact putIn h p d hr (inOk_of hok hb) hb hwl hZ
/-- The empty box. -/
def s0 : S := ⟨[], [], fun _ => 0⟩
theorem s0_ok : s0.ok := ⟨⟨by simp [s0], by simp [s0], fun a ha => by cases ha⟩, ⟨by simp [s0], fun y hy => by cases hy⟩, fun i => by show isU16 0; unfold isU16; omega⟩
theorem newBox (Z : Nat) (w : World) : Calls Try.prog 15 #[] w fun e w' => ∃ g b1 b2, e = .returned (.pointer (some ⟨g, 0, none⟩)) ∧ Box Z w' g b1 b2 s0 ∧ Below w.heap.size w w' ∧ w.heap.size ≤ g ∧ w.heap.size ≤ b1 ∧ w.heap.size ≤ b2 := by
  have hmm := @run_makeMap Try.prog
  go_enter Try.func15, Try.ntmps15
  go_wp2
  go_ret
  have h1 := MV.made w 43
  have h2 := MV.made (w.alloc (.map #[] 0)) 80
  have e1 : (w.alloc (.map #[] 0)).heap.size = w.heap.size + 1 := by simp
  rw [e1] at h2
  refine ⟨w.heap.size + 1 + 1, w.heap.size, w.heap.size + 1, rfl, ⟨fun _ => .slice none 0 0, fun _ _ => .slice none 0 0, _, _, ⟨At.new2 _ _ _ _ _, (h1.alloc _).alloc _, h2.alloc _, by omega, fun t _ => rfl, fun s q _ _ => rfl, fun a ha => (by cases ha), fun y hy => (by cases hy), s0_ok⟩⟩, ?_, by omega, by omega, by omega⟩
  exact (((Below.refl _ _).alloc (Nat.le_refl _) _).alloc (by simp) _).alloc (by simp; omega) _
set_option maxRecDepth 100000 in
theorem held {w : World} {Z g b1 b2 : Nat} {x : S} (H : Box Z w g b1 b2 x) : Calls Try.prog 19 #[.pointer (some ⟨g, 0, none⟩)] w fun e w' => e = .returned (.int .i64 x.held.length) ∧ Below w.heap.size w w' := by
  obtain ⟨vs, vw, m1, m2, h⟩ := H
  have c0 := h.row.cell 0
  simp [boxA] at c0
  obtain ⟨n, hn⟩ : ∃ n, x.held.length = n := ⟨_, rfl⟩
  have HLN := Lib.hid (by have h1 := h.map1.len Try.underlying72 3; rw [hn] at h1; exact h1)
  rw [hn]
  clear hn h
  go_enter Try.func19, Try.ntmps19
  go_wp2_with ((with_reducible refine wpl_lenR rfl (.tmp 8) 72 rfl (.map (some b1)) (.int .i64 n) ?_ HLN.out ?_); rfl)
  go_ret
  exact ⟨rfl, Below.refl _ _⟩
theorem held_nil (w : World) : Calls Try.prog 19 #[.pointer none] w fun e w' => e = .returned (.int .i64 0) ∧ Below w.heap.size w w' := by
  go_enter Try.func19, Try.ntmps19
  go_wp2
  go_ret
  exact ⟨rfl, Below.refl _ _⟩
end Go.Proofs.Yteiiifonejkjbaa.Bx
