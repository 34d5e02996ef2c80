/-
  LAWS FOR THE OPERATIONS OF A DRAWN REGION (Mono), each in one line; printed by genreg.py. No program is looked into here.
-/
import Derived.Test.YtjfponhdlfhmbaaMono
import Derived.Test.YtjfponhdlfhmbaaMemS
import Derived.Test.YtjfponhdlfhmbaaPrps
import Derived.Test.YtjfponhdlfhmbaaCells
import Derived.Test.YtjfponhdlfhmbaaOps
namespace Go.Proofs.Ytjfponhdlfhmbaa.Mono
open Go.RowKit Mem
set_option linter.unusedVariables false

theorem dep_at {ds : List (Option Nat)} {Rs : List Prp} {a : Act} {w : World} : ∀ {es : List Edge} {i d : Nat} {R : Prp}, DepFacts ds Rs a w es → (es.any fun e => e.on == i && Region.binds .any e) = true → ds[i]? = some (some d) → Rs[i]? = some R → R.R (a.eval (.tmp d)) w
  | [], _, _, _, _, h, _, _ => by cases h
  | e :: es, i, d, R, hd, h, h1, h2 => by
    rw [List.any_cons, Bool.or_eq_true] at h
    rcases h with h | h
    · rw [Bool.and_eq_true, beq_iff_eq] at h
      obtain ⟨rfl, hb⟩ := h
      have := hd.1 hb
      rw [h1, h2] at this
      exact this
    · exact dep_at hd.2 h h1 h2
theorem want_at {ds : List (Option Nat)} {o : Oper} {a : Act} {g d : Nat} {b c : Bool} (ho : o.guard = some (g, b)) (hd : ds[g]? = some (some d)) (he : a.eval (.tmp d) = .bool c) (hc : (c == b) = true) : want ds o a = true := by
  unfold want
  rw [ho]
  simp only [hd, he]
  exact hc
theorem want_no {ds : List (Option Nat)} {o : Oper} {a : Act} {g d : Nat} {b c : Bool} (ho : o.guard = some (g, b)) (hd : ds[g]? = some (some d)) (he : a.eval (.tmp d) = .bool c) (hc : (c == b) = false) : want ds o a = false := by
  unfold want
  rw [ho]
  simp only [hd, he]
  exact hc
theorem if_want {c : Bool} {A B : Prop} (h : c = true) (ha : A) : if c = true then A else B := by rw [if_pos h]; exact ha
theorem if_no {c : Bool} {A B : Prop} (h : c = false) (hb : B) : if c = true then A else B := by rw [if_neg (by rw [h]; decide)]; exact hb

section
variable {P : Program} {w : World} {o : Oper} {a : Act} {R : Prp} {Q : Exit → Act → World → Prop}
/-- What is asked of an operation. -/
abbrev Post (o : Oper) (a : Act) (w : World) (R : Prp) : Act → World → Prop := fun a' w' => ∃ v, a' = a.put o.dst v ∧ Below w.heap.size w w' ∧ R.R v w'
theorem ok_move (x : Operand) (ho : o.op = .move x) (h : R.R (a.eval x) w) : o.wp P a w (Post o a w R) Q := by
  unfold Oper.wp execOp
  simp only [ho, Sem.run_pure]
  exact ⟨_, rfl, Below.refl _ _, h⟩
theorem ok_assign (x : Operand) (ho : o.op = .assign x) (h : R.R (a.eval x) w) : o.wp P a w (Post o a w R) Q := by
  unfold Oper.wp execOp
  simp only [ho, Sem.run_pure]
  exact ⟨_, rfl, Below.refl _ _, h⟩
theorem ok_val (r : Value) (hrun : (execOp a.eval o).run P w = .ok (.value r) w) (h : R.R r w) : o.wp P a w (Post o a w R) Q := by
  unfold Oper.wp
  rw [hrun]
  exact ⟨_, rfl, Below.refl _ _, h⟩
theorem ok_valW (r : Value) (w' : World) (hrun : (execOp a.eval o).run P w = .ok (.value r) w') (hb : Below w.heap.size w w') (h : R.R r w') : o.wp P a w (Post o a w R) Q := by
  unfold Oper.wp
  rw [hrun]
  exact ⟨_, rfl, hb, h⟩
theorem ok_conv (src dst : TypeId) (x : Operand) (ho : o.op = .convert src dst x) (r : Value) (hrun : (convert src dst (a.eval x)).run P w = .ok r w) (h : R.R r w) : o.wp P a w (Post o a w R) Q := by
  unfold Oper.wp execOp
  simp only [ho, Sem.run_bind, hrun, Result.andThen_ok]
  exact ⟨_, rfl, Below.refl _ _, h⟩
theorem ok_load (T : TypeId) (x : Operand) (ho : o.op = .load T x) (v r : Value) (hx : a.eval x = v) (hrun : (Instr.loadAt T v).run P w = .ok r w) (h : R.R r w) : o.wp P a w (Post o a w R) Q := by
  unfold Oper.wp execOp
  simp only [ho, hx, Sem.run_bind, hrun, Result.andThen_ok]
  exact ⟨_, rfl, Below.refl _ _, h⟩
theorem ok_call (f : Nat) (xs : Array Operand) (ts : Array TypeId) (ho : o.op = .call { callee := .value (.func f), args := xs, argTypes := ts }) (vs : Array Value) (hrun : (execOp a.eval o).run P w = .ok (.enter f vs) w)
    (h : Calls P f vs w fun e w' => ∃ v, e = .returned v ∧ Below w.heap.size w w' ∧ R.R v w') : o.wp P a w (Post o a w R) Q := by
  unfold Oper.wp
  rw [hrun]
  simp only [Oper.upon]
  exact Calls.mono h (fun e w'' ⟨v, he, hk⟩ => by subst he; exact ⟨v, rfl, hk⟩)
theorem ok_sub_h (t : TypeId) (x hi : Operand) (ho : o.op = .slice t x none (some hi) none) (k : IntKind) (i : TypeInfo)
    (ht : P.underlying t = some (.slice (P.elem t))) (hii : P.info? (P.elem t) = some i) (hsize : i.size = 1)
    (v : Value) (xs ys : List Int) (h : Int) (hx : a.eval x = v) (hh : a.eval hi = .int .i64 h) (hr : Reads k w v xs) (h0 : 0 ≤ h) (h1 : h ≤ xs.length) (he : xs.take h.toNat = ys)
    (hR : ∀ v', Reads k w v' ys → R.R v' w) : o.wp P a w (Post o a w R) Q := by
  subst he
  have hr' := hr
  obtain ⟨p, c, rfl, k1, k2, k3, k4⟩ := hr
  have hs : (sizeOf (P.elem t)).run P w = .ok 1 w := by simp [sizeOf, typeInfo, hii, hsize]
  unfold Oper.wp execOp
  simp only [ho, hx, hh, Option.map_some, Option.map_none, run_sliceAt_slice w t _ _ _ _ ht, run_slice_h w t p xs.length c ht .i64 h h0 (by omega), hs, Sem.run_bind, Sem.run_pure, Result.andThen_ok]
  have := hr'.sliced 0 h.toNat (by omega) (by omega)
  exact ⟨_, rfl, Below.refl _ _, hR _ (by simpa using this)⟩
theorem ok_sub_l (t : TypeId) (x lo : Operand) (ho : o.op = .slice t x (some lo) none none) (k : IntKind) (i : TypeInfo)
    (ht : P.underlying t = some (.slice (P.elem t))) (hii : P.info? (P.elem t) = some i) (hsize : i.size = 1)
    (v : Value) (xs ys : List Int) (l : Int) (hx : a.eval x = v) (hl : a.eval lo = .int .i64 l) (hr : Reads k w v xs) (h0 : 0 ≤ l) (h1 : l ≤ xs.length) (he : xs.drop l.toNat = ys)
    (hR : ∀ v', Reads k w v' ys → R.R v' w) : o.wp P a w (Post o a w R) Q := by
  subst he
  have hr' := hr
  obtain ⟨p, c, rfl, k1, k2, k3, k4⟩ := hr
  have hs : (sizeOf (P.elem t)).run P w = .ok 1 w := by simp [sizeOf, typeInfo, hii, hsize]
  unfold Oper.wp execOp
  simp only [ho, hx, hl, Option.map_some, Option.map_none, run_sliceAt_slice w t _ _ _ _ ht, run_slice_l w t p xs.length c ht .i64 l h0 h1, hs, Sem.run_bind, Sem.run_pure, Result.andThen_ok]
  have := hr'.sliced l.toNat xs.length (by omega) (by omega)
  rw [List.take_of_length_le (by simp)] at this
  exact ⟨_, rfl, Below.refl _ _, hR _ this⟩
theorem ok_sub (t : TypeId) (x lo hi : Operand) (ho : o.op = .slice t x (some lo) (some hi) none) (k : IntKind) (i : TypeInfo)
    (ht : P.underlying t = some (.slice (P.elem t))) (hii : P.info? (P.elem t) = some i) (hsize : i.size = 1)
    (v : Value) (xs ys : List Int) (l h : Int) (hx : a.eval x = v) (hl : a.eval lo = .int .i64 l) (hh : a.eval hi = .int .i64 h) (hr : Reads k w v xs) (h0 : 0 ≤ l) (h1 : l ≤ h) (h2 : h ≤ xs.length) (he : (xs.drop l.toNat).take (h - l).toNat = ys)
    (hR : ∀ v', Reads k w v' ys → R.R v' w) : o.wp P a w (Post o a w R) Q := by
  subst he
  have hr' := hr
  obtain ⟨p, c, rfl, k1, k2, k3, k4⟩ := hr
  have hs : (sizeOf (P.elem t)).run P w = .ok 1 w := by simp [sizeOf, typeInfo, hii, hsize]
  unfold Oper.wp execOp
  simp only [ho, hx, hl, hh, Option.map_some, Option.map_none, run_sliceAt_slice w t _ _ _ _ ht, run_slice_lh w t p xs.length c ht .i64 .i64 l h h0 h1 (by omega), hs, Sem.run_bind, Sem.run_pure, Result.andThen_ok]
  have := hr'.sliced l.toNat h.toNat (by omega) (by omega)
  rw [show h.toNat - l.toNat = (h - l).toNat by omega] at this
  exact ⟨_, rfl, Below.refl _ _, hR _ this⟩
theorem ok_build (T : TypeId) (parts : Array (Nat × Operand)) (ho : o.op = .build T parts) (vs : Array (Nat × Value)) (hx : parts.map (fun (i, x) => (i, a.eval x)) = vs) (r : Value) (hrun : (Instr.build T vs).run P w = .ok r w) (h : R.R r w) : o.wp P a w (Post o a w R) Q := by
  unfold Oper.wp execOp
  simp only [ho, hx, Sem.run_bind, hrun, Result.andThen_ok]
  exact ⟨_, rfl, Below.refl _ _, h⟩
theorem ok_alloc (T : TypeId) (ho : o.op = .alloc T) (cs : Array Value) (hz : ((P.info? T).bind (·.zero)).map (·.cells) = some cs) (h : ∀ w', Cells.At w' w.heap.size T cs → R.R (.pointer (some ⟨w.heap.size, 0, none⟩)) w') : o.wp P a w (Post o a w R) Q := by
  cases hi : P.info? T with
  | none => simp [hi] at hz
  | some i =>
    cases hzz : i.zero with
    | none => simp [hi, hzz] at hz
    | some z =>
      have hc : z.cells = cs := by simpa [hi, hzz] using hz
      have hrun : (Instr.alloc T true (.tuple #[])).run P w = .ok (.pointer (some ⟨w.heap.size, 0, none⟩)) (w.alloc (.cells cs T)) := by
        simp [Instr.alloc, zeroValue, typeInfo, hi, hzz, newVar, newRow, hc]
      unfold Oper.wp execOp
      simp only [ho, Sem.run_bind, hrun, Result.andThen_ok]
      exact ⟨_, rfl, (Below.refl _ _).alloc (Nat.le_refl _) _, h _ (Cells.At.new w T cs)⟩
theorem ok_loadAt (T : TypeId) (x : Operand) (ho : o.op = .load T x) (g : Nat) (T' : TypeId) (cs : Array Value) (hat : Cells.At w g T' cs) (d : TypeDesc)
    (hu : P.underlying T = some d) (hd : d.isRow = true) (hi : (P.info? T).map (·.size) = some cs.size) (hx : a.eval x = .pointer (some ⟨g, 0, none⟩)) (h : R.R (.agg cs) w) : o.wp P a w (Post o a w R) Q := by
  have hr := run_loadVar_mid w g 0 T cs.toList d (Ops.range_at hat) hu hd (by simpa using hi)
  unfold Oper.wp execOp
  simp only [ho, hx, Instr.loadAt, Instr.sureAddr, Sem.run_bind, Sem.run_pure, Result.andThen_ok, hr]
  exact ⟨_, rfl, Below.refl _ _, by simpa using h⟩
theorem ok_loadE (T : TypeId) (x : Operand) (ho : o.op = .load T x) (b off : Nat) (cs : Array Value) (d : TypeDesc) (hc : w.rangeAt b off cs.toList)
    (hu : P.underlying T = some d) (hd : d.isRow = true) (hi : (P.info? T).map (·.size) = some cs.size) (hx : a.eval x = .pointer (some ⟨b, off, none⟩)) (h : R.R (.agg cs) w) : o.wp P a w (Post o a w R) Q := by
  have hr := run_loadVar_mid w b off T cs.toList d hc hu hd (by simpa using hi)
  unfold Oper.wp execOp
  simp only [ho, hx, Instr.loadAt, Instr.sureAddr, Sem.run_bind, Sem.run_pure, Result.andThen_ok, hr]
  exact ⟨_, rfl, Below.refl _ _, by simpa using h⟩
end
end Go.Proofs.Ytjfponhdlfhmbaa.Mono
