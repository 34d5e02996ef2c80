/-
  Contract: flags (a map of four pointers into the message's block).
-/
import Derived.Test.YtcekkppjalipfaaMonoJ
import Derived.Test.YtcekkppjalipfaaOwn1
import Derived.Maps.Own
namespace Go.Proofs.Ytcekkppjalipfaa.Avp
open Go.RowKit Mem Cells Avps Wire Ops Go.Maps
set_option linter.unusedVariables false
set_option linter.unusedSimpArgs false

/-- How a pointer into the block g reads: as the place in it. -/
def ptrR (g : Nat) : Value → Option (DataW Unit × List MemPlace)
  | .pointer (some ⟨b, o, none⟩) => if b = g then some (.lit (.int .i64 o), []) else none
  | _ => none
theorem ptrR_mk (g o : Nat) : ptrR g (.pointer (some ⟨g, o, none⟩)) = some (.lit (.int .i64 o), []) := by simp [ptrR]
def ent (k o : Int) : Lit × DataW Unit := (.int .u8 k, .lit (.int .i64 o))
/-- The map's datum, with those entries. -/
def flagD (a b c d : Bool) : DataW Unit := .map ((if d then [ent 16 3] else []) ++ (if c then [ent 32 2] else []) ++ (if b then [ent 64 1] else []) ++ (if a then [ent 128 0] else []))
theorem put128 (b c d : Bool) : (flagD false b c d).put (.int .u8 128) (.lit (.int .i64 0)) = flagD true b c d := by cases b <;> cases c <;> cases d <;> rfl
theorem put64 (a c d : Bool) : (flagD a false c d).put (.int .u8 64) (.lit (.int .i64 1)) = flagD a true c d := by cases a <;> cases c <;> cases d <;> rfl
theorem put32 (a b d : Bool) : (flagD a b false d).put (.int .u8 32) (.lit (.int .i64 2)) = flagD a b true d := by cases a <;> cases b <;> cases d <;> rfl
theorem put16 (a b c : Bool) : (flagD a b c false).put (.int .u8 16) (.lit (.int .i64 3)) = flagD a b c true := by cases a <;> cases b <;> cases c <;> rfl
theorem keyed5 : Keyed Try.prog 5 := int_keyed Try.underlying5
def cnt (a b c d : Bool) : Nat := a.toNat + b.toNat + c.toNat + d.toNat
/-- The world, by which operations have run. -/
def JF (w0 : World) (g : Nat) (l : Array Bool) (u : World) : Prop :=
  Below w0.heap.size w0 u ∧ (if l.getD 0 false = true then u.ownsMap Try.prog 5 (ptrR g) w0.heap.size (cnt (l.getD 4 false) (l.getD 8 false) (l.getD 12 false) (l.getD 16 false)) (flagD (l.getD 4 false) (l.getD 8 false) (l.getD 12 false) (l.getD 16 false)) else u.heap.size = w0.heap.size ∧ l.getD 4 false = false ∧ l.getD 8 false = false ∧ l.getD 12 false = false ∧ l.getD 16 false = false)
theorem JF.pure {w0 u : World} {g j : Nat} {l : Array Bool} (h : JF w0 g l u) (h0 : j ≠ 0) (h4 : j ≠ 4) (h8 : j ≠ 8) (h12 : j ≠ 12) (h16 : j ≠ 16) : JF w0 g (l.setIfInBounds j true) u := by
  unfold JF at h ⊢
  rw [MonoJ.getD_set_ne h0, MonoJ.getD_set_ne h4, MonoJ.getD_set_ne h8, MonoJ.getD_set_ne h12, MonoJ.getD_set_ne h16]
  exact h
section
variable {P : Program} {w : World} {o : Oper} {a : Act} {K : Act → World → Prop} {Q : Exit → Act → World → Prop}
theorem wp_move (x : Operand) (ho : o.op = .move x) (v : Value) (hx : a.eval x = v) (h : K (a.put o.dst v) w) : o.wp P a w K Q := by
  subst hx
  unfold Oper.wp execOp
  simp only [ho, Sem.run_pure]
  exact h
theorem wp_assign (x : Operand) (ho : o.op = .assign x) (v : Value) (hx : a.eval x = v) (h : K (a.put o.dst v) w) : o.wp P a w K Q := by
  subst hx
  unfold Oper.wp execOp
  simp only [ho, Sem.run_pure]
  exact h
theorem wp_nilCheck (x : Operand) (ho : o.op = .nilCheck x) (ad : Addr) (hx : a.eval x = .pointer (some ad)) (h : K (a.put o.dst (.pointer (some ad))) w) : o.wp P a w K Q := by
  unfold Oper.wp execOp
  simp only [ho, hx, Sem.run_pure]
  exact h
theorem wp_field (t : TypeId) (x : Operand) (j : Nat) (ho : o.op = .fieldAddr t x j) (v v' : Value) (hx : a.eval x = v) (hrun : (Instr.fieldAt t v j).run P w = .ok v' w) (h : K (a.put o.dst v') w) : o.wp P a w K Q := by
  unfold Oper.wp execOp
  simp only [ho, hx, Sem.run_bind, hrun, Result.andThen_ok]
  exact h
theorem wp_insert (t : TypeId) (m x y : Operand) (ho : o.op = .insert t m x y) (vm vk vy : Value) (hm : a.eval m = vm) (hx : a.eval x = vk) (hy : a.eval y = vy) (w' : World) (hrun : (Instr.mapUpdate t vm vk vy).run P w = .ok () w') (h : K (a.put o.dst undef) w') : o.wp P a w K Q := by
  unfold Oper.wp execOp
  simp only [ho, hm, hx, hy, Sem.run_bind, hrun, Result.andThen_ok]
  exact h
theorem wp_makeMap (t : TypeId) (ho : o.op = .makeMap t none) (hrun : (Instr.makeMap t none).run P w = .ok (.map (some w.heap.size)) (w.alloc (.map #[] 0))) (h : K (a.put o.dst (.map (some w.heap.size))) (w.alloc (.map #[] 0))) : o.wp P a w K Q := by
  unfold Oper.wp execOp
  simp only [ho, Option.map_none, Sem.run_bind, hrun, Result.andThen_ok]
  exact h
end
/-- One entry more. -/
theorem JF.insert {w0 u : World} {g j k o : Nat} {l : Array Bool} (h : JF w0 g l u) (hl : l.getD 0 false = true) (kv : Int) (hkey : keyOf Try.prog 5 (.int .u8 kv) = some (.int .u8 kv))
    (D' : DataW Unit) (n' : Nat) (hD : (flagD (l.getD 4 false) (l.getD 8 false) (l.getD 12 false) (l.getD 16 false)).put (.int .u8 kv) (.lit (.int .i64 o)) = D') :
    ∃ u', (Instr.mapUpdate 54 (.map (some w0.heap.size)) (.int .u8 kv) (.pointer (some ⟨g, o, none⟩))).run Try.prog u = .ok () u' ∧ Below w0.heap.size w0 u' ∧ u'.ownsMap Try.prog 5 (ptrR g) w0.heap.size (cnt (l.getD 4 false) (l.getD 8 false) (l.getD 12 false) (l.getD 16 false) + 1) D' := by
  obtain ⟨hb, hm⟩ := h
  rw [if_pos hl] at hm
  have hn : cnt (l.getD 4 false) (l.getD 8 false) (l.getD 12 false) (l.getD 16 false) < maxLen := by
    unfold cnt maxLen
    cases l.getD 4 false <;> cases l.getD 8 false <;> cases l.getD 12 false <;> cases l.getD 16 false <;> decide
  obtain ⟨u', h1, h2, h3⟩ := hm.update (key := .int .u8 kv) (val := .pointer (some ⟨g, o, none⟩)) keyed5 Try.underlying54 hn hkey (ptrR_mk g o)
  refine ⟨u', h1, hb.grown h3 hb.size (fun q e => by cases e; exact Nat.le_refl _), hD ▸ h2⟩
/-- What flags answers. -/
def FlagsIs (w : World) (g : Nat) (e : Ending) (w' : World) : Prop :=
  e = .returned (.map (some w.heap.size)) ∧ w'.ownsMap Try.prog 5 (ptrR g) w.heap.size 4 (flagD true true true true) ∧ Below w.heap.size w w'
set_option maxRecDepth 100000 in
set_option maxHeartbeats 1600000 in
theorem flags (g : Nat) (w : World) : Calls Try.prog 32 #[.pointer (some ⟨g, 0, none⟩)] w (FlagsIs w g) := by
  go_enter Try.func32, Try.ntmps32
  go_wp2_with fail
  refine MonoJ.wp_region_J [some 3, some 4, some 5, some 6, none, some 7, some 8, some 9, none, some 10, some 11, some 12, none, some 13, some 14, some 15, none, some 16, some 2] [.map (some w.heap.size), .pointer (some ⟨g, 0, none⟩), .pointer (some ⟨g, 0, none⟩), .pointer (some ⟨g, 0, none⟩), undef, .pointer (some ⟨g, 0, none⟩), .pointer (some ⟨g, 0, none⟩), .pointer (some ⟨g, 1, none⟩), undef, .pointer (some ⟨g, 0, none⟩), .pointer (some ⟨g, 0, none⟩), .pointer (some ⟨g, 2, none⟩), undef, .pointer (some ⟨g, 0, none⟩), .pointer (some ⟨g, 0, none⟩), .pointer (some ⟨g, 3, none⟩), undef, .map (some w.heap.size), .map (some w.heap.size)] (JF w g) (by kernel_rfl) (by kernel_rfl) (by kernel_rfl) ?_ ?_ ?_
  · exact ⟨Frame.ext_drew w, by rw [if_neg (by decide)]; exact ⟨rfl, rfl, rfl, rfl, rfl⟩⟩
  · simp only [MonoJ.OpGoals, and_true]
    refine ⟨?_, ?_, ?_, ?_, ?_, ?_, ?_, ?_, ?_, ?_, ?_, ?_, ?_, ?_, ?_, ?_, ?_, ?_, ?_⟩
    · intro l a u hJ hsz hjn hdep hsame hval
      have h0 := MonoJ.getD_false hjn
      obtain ⟨hb, hm⟩ := hJ
      rw [if_neg (by rw [h0]; decide)] at hm
      obtain ⟨hs, m4, m8, m12, m16⟩ := hm
      refine wp_makeMap 54 rfl (run_makeMap 54 u) ?_
      refine ⟨by rw [hs], hb.alloc (by omega) _, ?_⟩
      rw [if_pos (MonoJ.getD_set_same (by rw [hsz]; decide)), MonoJ.getD_set_ne (by decide), MonoJ.getD_set_ne (by decide), MonoJ.getD_set_ne (by decide), MonoJ.getD_set_ne (by decide), m4, m8, m12, m16, ← hs]
      exact Go.World.ownsMap_made _ _ _ _
    · intro l a u hJ hsz hjn hdep hsame hval
      refine wp_move (.tmp 0) rfl _ (hsame 0 (by decide)) ?_
      exact ⟨rfl, hJ.pure (by decide) (by decide) (by decide) (by decide) (by decide)⟩
    · intro l a u hJ hsz hjn hdep hsame hval
      refine wp_nilCheck (.tmp 4) rfl ⟨g, 0, none⟩ (hval 1 4 (hdep ⟨1, .data⟩ (by simp) rfl) rfl) ?_
      exact ⟨rfl, hJ.pure (by decide) (by decide) (by decide) (by decide) (by decide)⟩
    · intro l a u hJ hsz hjn hdep hsame hval
      refine wp_field 25 (.tmp 5) 0 rfl (.pointer (some ⟨g, 0, none⟩)) (.pointer (some ⟨g, 0, none⟩)) (hval 2 5 (hdep ⟨2, .data⟩ (by simp) rfl) rfl) (by kernel_rfl) ?_
      exact ⟨rfl, hJ.pure (by decide) (by decide) (by decide) (by decide) (by decide)⟩
    · intro l a u hJ hsz hjn hdep hsame hval
      have hme := MonoJ.getD_false hjn
      have hl0 := (hdep ⟨0, .data⟩ (by simp) rfl)
      obtain ⟨u', h1, h2, h3⟩ := hJ.insert (j := 0) (k := 0) (o := 0) hl0 128 (by kernel_rfl) (flagD true (l.getD 8 false) (l.getD 12 false) (l.getD 16 false)) 0 (by rw [hme]; exact put128 _ _ _)
      refine wp_insert 54 (.tmp 3) (.const (.int .u8 128)) (.tmp 6) rfl _ _ _ (hval 0 3 (hdep ⟨0, .data⟩ (by simp) rfl) rfl) rfl (hval 3 6 (hdep ⟨3, .data⟩ (by simp) rfl) rfl) u' h1 ?_
      refine ⟨rfl, h2, ?_⟩
      rw [MonoJ.getD_set_ne (i := 0) (by decide), if_pos hl0, MonoJ.getD_set_same (j := 4) (by rw [hsz]; decide), MonoJ.getD_set_ne (i := 8) (by decide), MonoJ.getD_set_ne (i := 12) (by decide), MonoJ.getD_set_ne (i := 16) (by decide)]
      have hc : cnt (l.getD 4 false) (l.getD 8 false) (l.getD 12 false) (l.getD 16 false) + 1 = cnt true (l.getD 8 false) (l.getD 12 false) (l.getD 16 false) := by rw [hme]; unfold cnt; simp [Bool.toNat]; try omega
      rw [hc] at h3
      exact h3
    · intro l a u hJ hsz hjn hdep hsame hval
      refine wp_move (.tmp 0) rfl _ (hsame 0 (by decide)) ?_
      exact ⟨rfl, hJ.pure (by decide) (by decide) (by decide) (by decide) (by decide)⟩
    · intro l a u hJ hsz hjn hdep hsame hval
      refine wp_nilCheck (.tmp 7) rfl ⟨g, 0, none⟩ (hval 5 7 (hdep ⟨5, .data⟩ (by simp) rfl) rfl) ?_
      exact ⟨rfl, hJ.pure (by decide) (by decide) (by decide) (by decide) (by decide)⟩
    · intro l a u hJ hsz hjn hdep hsame hval
      refine wp_field 25 (.tmp 8) 1 rfl (.pointer (some ⟨g, 0, none⟩)) (.pointer (some ⟨g, 1, none⟩)) (hval 6 8 (hdep ⟨6, .data⟩ (by simp) rfl) rfl) (by kernel_rfl) ?_
      exact ⟨rfl, hJ.pure (by decide) (by decide) (by decide) (by decide) (by decide)⟩
    · intro l a u hJ hsz hjn hdep hsame hval
      have hme := MonoJ.getD_false hjn
      have hl0 := (hdep ⟨0, .data⟩ (by simp) rfl)
      obtain ⟨u', h1, h2, h3⟩ := hJ.insert (j := 0) (k := 0) (o := 1) hl0 64 (by kernel_rfl) (flagD (l.getD 4 false) true (l.getD 12 false) (l.getD 16 false)) 0 (by rw [hme]; exact put64 _ _ _)
      refine wp_insert 54 (.tmp 3) (.const (.int .u8 64)) (.tmp 9) rfl _ _ _ (hval 0 3 (hdep ⟨0, .data⟩ (by simp) rfl) rfl) rfl (hval 7 9 (hdep ⟨7, .data⟩ (by simp) rfl) rfl) u' h1 ?_
      refine ⟨rfl, h2, ?_⟩
      rw [MonoJ.getD_set_ne (i := 0) (by decide), if_pos hl0, MonoJ.getD_set_ne (i := 4) (by decide), MonoJ.getD_set_same (j := 8) (by rw [hsz]; decide), MonoJ.getD_set_ne (i := 12) (by decide), MonoJ.getD_set_ne (i := 16) (by decide)]
      have hc : cnt (l.getD 4 false) (l.getD 8 false) (l.getD 12 false) (l.getD 16 false) + 1 = cnt (l.getD 4 false) true (l.getD 12 false) (l.getD 16 false) := by rw [hme]; unfold cnt; simp [Bool.toNat]; try omega
      rw [hc] at h3
      exact h3
    · intro l a u hJ hsz hjn hdep hsame hval
      refine wp_move (.tmp 0) rfl _ (hsame 0 (by decide)) ?_
      exact ⟨rfl, hJ.pure (by decide) (by decide) (by decide) (by decide) (by decide)⟩
    · intro l a u hJ hsz hjn hdep hsame hval
      refine wp_nilCheck (.tmp 10) rfl ⟨g, 0, none⟩ (hval 9 10 (hdep ⟨9, .data⟩ (by simp) rfl) rfl) ?_
      exact ⟨rfl, hJ.pure (by decide) (by decide) (by decide) (by decide) (by decide)⟩
    · intro l a u hJ hsz hjn hdep hsame hval
      refine wp_field 25 (.tmp 11) 2 rfl (.pointer (some ⟨g, 0, none⟩)) (.pointer (some ⟨g, 2, none⟩)) (hval 10 11 (hdep ⟨10, .data⟩ (by simp) rfl) rfl) (by kernel_rfl) ?_
      exact ⟨rfl, hJ.pure (by decide) (by decide) (by decide) (by decide) (by decide)⟩
    · intro l a u hJ hsz hjn hdep hsame hval
      have hme := MonoJ.getD_false hjn
      have hl0 := (hdep ⟨0, .data⟩ (by simp) rfl)
      obtain ⟨u', h1, h2, h3⟩ := hJ.insert (j := 0) (k := 0) (o := 2) hl0 32 (by kernel_rfl) (flagD (l.getD 4 false) (l.getD 8 false) true (l.getD 16 false)) 0 (by rw [hme]; exact put32 _ _ _)
      refine wp_insert 54 (.tmp 3) (.const (.int .u8 32)) (.tmp 12) rfl _ _ _ (hval 0 3 (hdep ⟨0, .data⟩ (by simp) rfl) rfl) rfl (hval 11 12 (hdep ⟨11, .data⟩ (by simp) rfl) rfl) u' h1 ?_
      refine ⟨rfl, h2, ?_⟩
      rw [MonoJ.getD_set_ne (i := 0) (by decide), if_pos hl0, MonoJ.getD_set_ne (i := 4) (by decide), MonoJ.getD_set_ne (i := 8) (by decide), MonoJ.getD_set_same (j := 12) (by rw [hsz]; decide), MonoJ.getD_set_ne (i := 16) (by decide)]
      have hc : cnt (l.getD 4 false) (l.getD 8 false) (l.getD 12 false) (l.getD 16 false) + 1 = cnt (l.getD 4 false) (l.getD 8 false) true (l.getD 16 false) := by rw [hme]; unfold cnt; simp [Bool.toNat]; try omega
      rw [hc] at h3
      exact h3
    · intro l a u hJ hsz hjn hdep hsame hval
      refine wp_move (.tmp 0) rfl _ (hsame 0 (by decide)) ?_
      exact ⟨rfl, hJ.pure (by decide) (by decide) (by decide) (by decide) (by decide)⟩
    · intro l a u hJ hsz hjn hdep hsame hval
      refine wp_nilCheck (.tmp 13) rfl ⟨g, 0, none⟩ (hval 13 13 (hdep ⟨13, .data⟩ (by simp) rfl) rfl) ?_
      exact ⟨rfl, hJ.pure (by decide) (by decide) (by decide) (by decide) (by decide)⟩
    · intro l a u hJ hsz hjn hdep hsame hval
      refine wp_field 25 (.tmp 14) 3 rfl (.pointer (some ⟨g, 0, none⟩)) (.pointer (some ⟨g, 3, none⟩)) (hval 14 14 (hdep ⟨14, .data⟩ (by simp) rfl) rfl) (by kernel_rfl) ?_
      exact ⟨rfl, hJ.pure (by decide) (by decide) (by decide) (by decide) (by decide)⟩
    · intro l a u hJ hsz hjn hdep hsame hval
      have hme := MonoJ.getD_false hjn
      have hl0 := (hdep ⟨0, .data⟩ (by simp) rfl)
      obtain ⟨u', h1, h2, h3⟩ := hJ.insert (j := 0) (k := 0) (o := 3) hl0 16 (by kernel_rfl) (flagD (l.getD 4 false) (l.getD 8 false) (l.getD 12 false) true) 0 (by rw [hme]; exact put16 _ _ _)
      refine wp_insert 54 (.tmp 3) (.const (.int .u8 16)) (.tmp 15) rfl _ _ _ (hval 0 3 (hdep ⟨0, .data⟩ (by simp) rfl) rfl) rfl (hval 15 15 (hdep ⟨15, .data⟩ (by simp) rfl) rfl) u' h1 ?_
      refine ⟨rfl, h2, ?_⟩
      rw [MonoJ.getD_set_ne (i := 0) (by decide), if_pos hl0, MonoJ.getD_set_ne (i := 4) (by decide), MonoJ.getD_set_ne (i := 8) (by decide), MonoJ.getD_set_ne (i := 12) (by decide), MonoJ.getD_set_same (j := 16) (by rw [hsz]; decide)]
      have hc : cnt (l.getD 4 false) (l.getD 8 false) (l.getD 12 false) (l.getD 16 false) + 1 = cnt (l.getD 4 false) (l.getD 8 false) (l.getD 12 false) true := by rw [hme]; unfold cnt; simp [Bool.toNat]; try omega
      rw [hc] at h3
      exact h3
    · intro l a u hJ hsz hjn hdep hsame hval
      refine wp_move (.tmp 3) rfl _ (hval 0 3 (hdep ⟨0, .data⟩ (by simp) rfl) rfl) ?_
      exact ⟨rfl, hJ.pure (by decide) (by decide) (by decide) (by decide) (by decide)⟩
    · intro l a u hJ hsz hjn hdep hsame hval
      refine wp_assign (.tmp 16) rfl _ (hval 17 16 (hdep ⟨17, .data⟩ (by simp) rfl) rfl) ?_
      exact ⟨rfl, hJ.pure (by decide) (by decide) (by decide) (by decide) (by decide)⟩
  · intro u hJ
    obtain ⟨hb, hm⟩ := hJ
    rw [if_pos (by rfl)] at hm
    have hm' : u.ownsMap Try.prog 5 (ptrR g) w.heap.size 4 (flagD true true true true) := hm
    have HM := Lib.hid hm'
    clear hm hm'
    simp [Act.put]
    go_wp2_with fail
    go_ret
    exact ⟨rfl, HM.out, hb⟩
end Go.Proofs.Ytcekkppjalipfaa.Avp
