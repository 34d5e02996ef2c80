/-
  One piece more behind a list of the call's own; properties of slots; the reference's pieces (plain). No walk.
-/
import Derived.Test.YteiiifonejkjbaaFresh
import Derived.Test.YteiiifonejkjbaaCut3
namespace Go.Proofs.Yteiiifonejkjbaa.Pcs
open Go.RowKit Go.Shelf Mem Cells Ops Chunk
set_option linter.unusedVariables false
set_option linter.unusedSimpArgs false

theorem run_append1 {w : World} {B q m : Nat} {v : Value} {al : List A} (h : OwnQ B w v al) (A : A) (d : Value) (hat : At w q 45 (row A d).toArray) (hd : Row .u8 5 B w d A.data) (hB : B ≤ w.heap.size) (hn : al.length ≤ 99999) :
    ∃ v' w', (Builtin.append_ #[35, 35] 35 #[v, .slice (some ⟨q, 0, none⟩) 1 m]).run Try.prog w = .ok v' w' ∧ OwnQ B w' v' (al ++ [A]) ∧ w.grownBy w' v.ownBlock := by
  obtain ⟨i, hi, hz0, hz1, hz2⟩ := info_parts info45
  obtain ⟨ys, e1, e2, e3⟩ := h
  have hone : ∀ u ∈ flat [(A, d)], u.oneCell' = true := flat_one' (w := w) (fun z hz => by rw [List.mem_singleton] at hz; subst hz; exact hd.reads)
  obtain ⟨v', w', hr, k2, k3, k4⟩ := run_append_own (P := Try.prog) w B 35 35 45 i _ 7 40 Try.underlying35 hi hz0 hz1 hz2 rfl (by omega) v al.length (flat ys) e2 ⟨q, 0, none⟩ 1 m (flat [(A, d)]) rfl
    (fun j u hj => by rw [add_none, Nat.zero_add, hat.cell j, ← hj, flat_one]; simp) hone (by simp [maxLen]; omega) (by omega) hB
  refine ⟨v', w', hr, ⟨ys ++ [(A, d)], by rw [List.map_append, e1]; rfl, ?_, ?_⟩, k3⟩
  · rw [flat_append, List.length_append]
    exact k2
  · intro z hz
    have key : ∀ z : Pcs.A × Value, Row .u8 5 B w z.2 z.1.data → Row .u8 5 B w' z.2 z.1.data := fun z hz => hz.kept k3 (own_ne2 hz e2 (by decide))
    rcases List.mem_append.1 hz with hz | hz
    · exact key z (e3 z hz)
    · rw [List.mem_singleton] at hz
      subst hz
      exact key _ hd
section
variable {P : Program} {w : World} {ops : Array Oper} {rest : List Oper} {o : Oper} {a : Act} {Q : Exit → Act → World → Prop}
theorem wpl_appendV (hgd : o.guard = none) (t : TypeId) (s x : Operand) (ho : o.op = .call { callee := .builtin .append, args := #[s, x], argTypes := #[t, t] }) (vs vx r : Value) (w' : World) (hs : a.eval s = vs) (hx : a.eval x = vx)
    (hrun : (Builtin.append_ #[t, t] o.type #[vs, vx]).run P w = .ok r w') (K : wpList P ops Q rest (a.put o.dst r) w') : wpList P ops Q (o :: rest) a w := by
  refine wpList_plain hgd fun K' hK => ?_
  unfold Oper.wp execOp
  simp only [ho, resolve, invoke, builtin, Sem.run_bind, Sem.run_pure, Result.andThen_ok, List.map_toArray, List.map_cons, List.map_nil, hs, hx, hrun]
  exact hK _ _ K
end
theorem nil30 (u : World) : (Instr.buildSlice 30 0 #[]).run Try.prog u = .ok (.slice (some ⟨u.heap.size, 0, none⟩) 0 0) (u.alloc (.cells #[] 5)) := by kernel_rfl

/-! Properties of slots. -/
/-- An empty slice in a block of the call's own. -/
def freshP (B : Nat) : Mono.Prp := ⟨fun v u => ∃ g, v = .slice (some ⟨g, 0, none⟩) 0 0 ∧ At u g 5 #[] ∧ B ≤ g, fun _ _ _ ⟨g, e, h, hB⟩ hb => ⟨g, e, h.ext hb, hB⟩⟩
def ownRowP (B : Nat) (xs : List Int) : Mono.Prp := ⟨fun v u => Row .u8 5 B u v xs, fun _ _ _ h hb => Row.below h hb⟩
def pieceP (B : Nat) (A : A) : Mono.Prp := ⟨fun v u => ∃ d, v = .agg (row A d).toArray ∧ Row .u8 5 B u d A.data, fun _ _ _ ⟨d, e, h⟩ hb => ⟨d, e, Row.below h hb⟩⟩
def oneP (B : Nat) (A : A) : Mono.Prp := ⟨fun v u => ∃ g d, v = .slice (some ⟨g, 0, none⟩) 1 1 ∧ At u g 45 (row A d).toArray ∧ Row .u8 5 B u d A.data, fun _ _ _ ⟨g, d, e, h, h2⟩ hb => ⟨g, d, e, h.ext hb, Row.below h2 hb⟩⟩

/-! The reference's pieces. -/
def PR (s : Nat) (sq : Int) (un : Bool) (xs : List Int) (sz j : Nat) : List A := (List.range j).map fun i => ⟨0, s, sq, decide (i = 0), decide (xs.length ≤ (i + 1) * sz), un, (xs.drop (i * sz)).take sz⟩
theorem PR_length (s : Nat) (sq : Int) (un : Bool) (xs : List Int) (sz j : Nat) : (PR s sq un xs sz j).length = j := by simp [PR]
theorem PR_succ (s : Nat) (sq : Int) (un : Bool) (xs : List Int) (sz j : Nat) : PR s sq un xs sz (j + 1) = PR s sq un xs sz j ++ [⟨0, s, sq, decide (j = 0), decide (xs.length ≤ (j + 1) * sz), un, (xs.drop (j * sz)).take sz⟩] := by
  simp [PR, List.range_succ]
theorem PR_all (s : Nat) (sq : Int) (un : Bool) (xs : List Int) (sz k : Nat) (h1 : xs.length ≤ (k + 1) * sz) (h2 : k * sz < xs.length) : PR s sq un xs sz (k + 1) = PE s sq un xs sz (k + 1) := by
  unfold PR PE
  refine List.map_congr_left fun i hi => ?_
  have hik : i < k + 1 := List.mem_range.1 hi
  have : decide (xs.length ≤ (i + 1) * sz) = decide (i + 1 = k + 1) := by
    rw [decide_eq_decide]
    constructor
    · intro h
      by_cases e : i = k
      · omega
      · have : (i + 1) * sz ≤ k * sz := Nat.mul_le_mul_right _ (by omega)
        omega
    · intro h
      have : i = k := by omega
      rw [this]; exact h1
  rw [this]
end Go.Proofs.Yteiiifonejkjbaa.Pcs
