/-
  Contract: Box.Put (16), where it refuses; up to the piece's coming in.
-/
import Derived.Test.YteiiifonejkjbaaBox3
import Derived.Test.YteiiifonejkjbaaMonoA
namespace Go.Proofs.Yteiiifonejkjbaa.Bx
open Go.RowKit Mem Cells Ops Pcs Go.Maps Go.Proofs.Yteiiifonejkjbaa.Open
set_option linter.unusedVariables false
set_option linter.unusedSimpArgs false
attribute [local go_sem] Oper.semAt_some

section
variable {P : Program} {w : World} {ops : Array Oper} {rest : List Oper} {o o1 o2 : Oper} {a : Act} {Q : Exit → Act → World → Prop}
theorem wpl_lenR (hgd : o.guard = none) (m : Operand) (t : TypeId) (hop : o.op = Op.call { callee := Callee.builtin Builtin.len, args := #[m], argTypes := #[t] }) (v r : Value)
    (hm : a.eval m = v) (hrun : (Builtin.len_ #[t] o.type #[v]).run P w = .ok r w) (K : wpList P ops Q rest (a.put o.dst r) w) : wpList P ops Q (o :: rest) a w := by
  refine wpList_plain hgd fun K' hK' => ?_
  unfold Oper.wp
  simp [execOp, hop, resolve, invoke, builtin, hm, hrun, Result.andThen]
  exact hK' _ _ K
end
/-- What Put answers, and what it makes of the box. -/
def PutIs (Z : Nat) (w : World) (g b1 b2 : Nat) (x : S) (p : A) : Ending → World → Prop := fun e w' => ∃ v, e = .returned (.tuple #[v, .int .i64 (putF x p).2.2]) ∧ OwnG w.heap.size w' v (putF x p).2.1 ∧ Box Z w' g b1 b2 (putF x p).1 ∧ ButX (BX g b1 b2) w w'

set_option maxRecDepth 100000 in
set_option maxHeartbeats 800000 in
theorem put_nil (p : A) (d : Value) (w : World) : Calls Try.prog 16 #[.pointer none, .agg (row p d).toArray] w fun e w' => e = .returned (.tuple #[.slice none 0 0, .int .i64 1]) ∧ Below w.heap.size w w' := by
  go_enter Try.func16, Try.ntmps16
  go_wp2_with ((with_reducible refine wpl_boxAt rfl 45 (.tmp 1) rfl (row p d).toArray ?_ ?_); rfl; go_must (intro w1 hat1 hb1 hs1; have HB := Lib.hid hb1; clear hb1))
  go_ret2
  exact ⟨rfl, HB.out⟩
set_option maxRecDepth 100000 in
set_option maxHeartbeats 800000 in
theorem put_bad1 {g : Nat} (p : A) (q : Option Addr) (c L : Nat) (hl : p.data.length = L) (h : p.data.length = 0) (w : World) :
    Calls Try.prog 16 #[.pointer (some ⟨g, 0, none⟩), .agg (row p (.slice q p.data.length c)).toArray] w fun e w' => e = .returned (.tuple #[.slice none 0 0, .int .i64 2]) ∧ Below w.heap.size w w' := by
  rw [hl] at h ⊢
  clear hl
  subst h
  go_enter Try.func16, Try.ntmps16
  go_wp2_with ((with_reducible refine wpl_boxAt rfl 45 (.tmp 1) rfl (row p (.slice q 0 c)).toArray ?_ ?_); rfl; go_must (intro w1 hat1 hb1 hs1; have m1 := hat1.cell 1; have m6 := hat1.cell 6; simp [row] at m1 m6; have HB := Lib.hid hb1; clear hb1))
  go_ret2
  exact ⟨rfl, HB.out⟩
set_option maxRecDepth 100000 in
set_option maxHeartbeats 800000 in
theorem put_bad2 {g : Nat} (p : A) (q : Option Addr) (c L : Nat) (hl : p.data.length = L) (h : p.data.length ≠ 0) (h2 : 256 < p.data.length) (hL : p.data.length ≤ 9223372036854775807) (w : World) :
    Calls Try.prog 16 #[.pointer (some ⟨g, 0, none⟩), .agg (row p (.slice q p.data.length c)).toArray] w fun e w' => e = .returned (.tuple #[.slice none 0 0, .int .i64 2]) ∧ Below w.heap.size w w' := by
  rw [hl] at h h2 hL ⊢
  clear hl
  have l0 : ((L : Int) == 0) = false := by simp; omega
  have z2 : (256 : Int) < (L : Int) := by omega
  have b2 : decide ((256 : Int) < (L : Int)) = true := decide_eq_true z2
  go_enter Try.func16, Try.ntmps16
  go_wp2_with ((with_reducible refine wpl_boxAt rfl 45 (.tmp 1) rfl (row p (.slice q L c)).toArray ?_ ?_); rfl; go_must (intro w1 hat1 hb1 hs1; have m1 := hat1.cell 1; have m6 := hat1.cell 6; simp [row] at m1 m6; have HB := Lib.hid hb1; clear hb1))
  go_ret2
  exact ⟨rfl, HB.out⟩
set_option maxRecDepth 100000 in
set_option maxHeartbeats 800000 in
theorem put_bad3 {g : Nat} (p : A) (q : Option Addr) (c L : Nat) (hl : p.data.length = L) (h : p.data.length ≠ 0) (h2 : p.data.length ≤ 256) (h3 : 8 ≤ p.stream) (hs : 0 ≤ p.stream ∧ p.stream ≤ 65535) (w : World) :
    Calls Try.prog 16 #[.pointer (some ⟨g, 0, none⟩), .agg (row p (.slice q p.data.length c)).toArray] w fun e w' => e = .returned (.tuple #[.slice none 0 0, .int .i64 2]) ∧ Below w.heap.size w w' := by
  rw [hl] at h h2 ⊢
  clear hl
  have l0 : ((L : Int) == 0) = false := by simp; omega
  have z2 : ¬ (256 : Int) < (L : Int) := by omega
  have b2 : decide ((256 : Int) < (L : Int)) = false := decide_eq_false z2
  have b3 : decide ((8 : Int) ≤ p.stream) = true := decide_eq_true h3
  go_enter Try.func16, Try.ntmps16
  go_wp2_with ((with_reducible refine wpl_boxAt rfl 45 (.tmp 1) rfl (row p (.slice q L c)).toArray ?_ ?_); rfl; go_must (intro w1 hat1 hb1 hs1; have m1 := hat1.cell 1; have m6 := hat1.cell 6; simp [row] at m1 m6; have HB := Lib.hid hb1; clear hb1))
  go_ret2
  exact ⟨rfl, HB.out⟩
theorem put_bad {w : World} {Z g b1 b2 : Nat} {x : S} (H : Box Z w g b1 b2 x) (p : A) (d : Value) (hr : Reads .u8 w d p.data) (hok : p.ok) (hb : badF p = true) :
    Calls Try.prog 16 #[.pointer (some ⟨g, 0, none⟩), .agg (row p d).toArray] w (PutIs Z w g b1 b2 x p) := by
  have hp : putF x p = (x, [], 2) := by unfold putF; rw [if_pos hb]
  obtain ⟨q, c, rfl, h1, h2, _⟩ := id hr
  have hL : p.data.length ≤ 9223372036854775807 := by unfold maxLen at h2; omega
  have key : Calls Try.prog 16 #[.pointer (some ⟨g, 0, none⟩), .agg (row p (.slice q p.data.length c)).toArray] w fun e w' => e = .returned (.tuple #[.slice none 0 0, .int .i64 2]) ∧ Below w.heap.size w w' := by
    unfold badF at hb
    rw [decide_eq_true_iff] at hb
    by_cases e1 : p.data.length = 0
    · exact put_bad1 p q c _ rfl e1 w
    · by_cases e2 : 256 < p.data.length
      · exact put_bad2 p q c _ rfl e1 e2 hL w
      · exact put_bad3 p q c _ rfl e1 (by omega) (by omega) hok.2.1 w
  refine key.mono ?_
  rintro e w' ⟨rfl, hb'⟩
  unfold PutIs
  rw [hp]
  obtain ⟨vs, vw, m1, m2, H⟩ := H
  exact ⟨_, rfl, OwnG.nil _ _, ⟨vs, vw, m1, m2, H.below hb'⟩, ButX.ofBelow hb'⟩
end Go.Proofs.Yteiiifonejkjbaa.Bx
