/-
  Contract: age where the only one is too old.
-/
import Derived.Test.YtmbhiajhlfjknaaDup6
import Derived.Test.YtmbhiajhlfjknaaMonoJ
import Derived.Test.YtmbhiajhlfjknaaOpsW
namespace Go.Proofs.Ytmbhiajhlfjknaa.Dup
open Go.RowKit Mem Cells Ops
set_option linter.unusedVariables false
set_option linter.unusedSimpArgs false

/-- All old blocks but two are as they were. -/
structure But2 (S g : Nat) (w x : World) : Prop where
  os : x.os = w.os
  tape : x.tape = w.tape
  output : x.output = w.output
  size : w.heap.size ≤ x.heap.size
  block : ∀ j, j < w.heap.size → j ≠ S → j ≠ g → x.heap[j]? = w.heap[j]?
theorem But2.refl (S g : Nat) (w : World) : But2 S g w w := ⟨rfl, rfl, rfl, Nat.le_refl _, fun _ _ _ _ => rfl⟩
theorem But2.drew (S g : Nat) (w : World) : But2 S g w w.drew := ⟨rfl, rfl, rfl, Nat.le_refl _, fun _ _ _ _ => rfl⟩
theorem But2.grown {S g q : Nat} {w x y : World} (h : But2 S g w x) (hg : x.grownBy y (some q)) (hq : q = S ∨ q = g) : But2 S g w y :=
  ⟨hg.os.trans h.os, hg.tape.trans h.tape, hg.output.trans h.output, Nat.le_trans h.size hg.size, fun j hj h1 h2 => (hg.block j (Nat.lt_of_lt_of_le hj h.size) (fun e => by cases e; rcases hq with rfl | rfl; exact h1 rfl; exact h2 rfl)).trans (h.block j hj h1 h2)⟩
theorem But2.at {S g k : Nat} {w x : World} {T : TypeId} {cs : Array Value} (h : But2 S g w x) (hat : At w k T cs) (h1 : k ≠ S) (h2 : k ≠ g) : At x k T cs := by
  unfold At
  rw [h.block k hat.lt h1 h2]
  exact hat
theorem But2.below {S g B : Nat} {w x : World} (h : But2 S g w x) (hB : B ≤ w.heap.size) (hS : B ≤ S) (hg : B ≤ g) : Below B w x :=
  ⟨h.os, h.tape, h.output, h.size, fun j hj => h.block j (by omega) (by omega) (by omega)⟩
/-- What is known of the world, by which operations have run. -/
def JA (S g B : Nat) (u0 : World) (window most last : Int) (p : Option Addr) (c : Nat) (k : K) (l : Array Bool) (x : World) : Prop :=
  But2 S g u0 x ∧ (l.getD 9 false = true → l.getD 6 false = true) ∧ (l.getD 6 false = true → l.getD 4 false = true) ∧
  At x S 39 (rowS window most last (if l.getD 9 false = true then .slice p 0 c else .slice p 1 c)) ∧ (if l.getD 6 false = true then OwnK B x (.slice p 0 c) [] else OwnK B x (.slice p 1 c) [k])
theorem set_mono {l : Array Bool} {i j : Nat} (h : l.getD i false = true) : (l.setIfInBounds j true).getD i false = true := by
  by_cases e : j = i
  · subst e
    have hlt : j < l.size := by
      rcases Nat.lt_or_ge j l.size with h1 | h1
      · exact h1
      · simp [Array.getD_eq_getD_getElem?, Array.getElem?_eq_none h1] at h
    exact MonoJ.getD_set_same hlt
  · rw [MonoJ.getD_set_ne e]; exact h
theorem JA.pure {S g B : Nat} {u0 : World} {window most last : Int} {p : Option Addr} {c : Nat} {k : K} {l : Array Bool} {x : World} (h : JA S g B u0 window most last p c k l x) (j : Nat) (h6 : j ≠ 6) (h9 : j ≠ 9) : JA S g B u0 window most last p c k (l.setIfInBounds j true) x := by
  obtain ⟨a, b, d, e, f⟩ := h
  unfold JA
  rw [MonoJ.getD_set_ne h6, MonoJ.getD_set_ne h9]
  exact ⟨a, b, fun hh => set_mono (d hh), e, f⟩
section
variable {P : Program} {w : World} {o : Oper} {a : Act} {K' : Act → World → Prop} {Q : Exit → Act → World → Prop}
theorem wp_storeC (ty : TypeId) (x y : Operand) (ho : o.op = .store ty x y) (hd : o.dst = none) (g j : Nat) (T : TypeId) (cs ds : Array Value) (v : Value)
    (hx : a.eval x = .pointer (some ⟨g, j, none⟩)) (hy : a.eval y = v) (hat : At w g T cs) (hj : j < cs.size) (hi : (P.info? ty).map (·.size) = some 1) (h1 : v.oneCell' = true) (e : cs.set! j v = ds)
    (h : ∀ w', At w' g T ds → w.grownBy w' (some g) → K' a w') : o.wp P a w K' Q := by
  have hc := hat.cell j
  rw [Array.getElem?_eq_getElem hj] at hc
  have hf := hat.free j
  have hrun : (storeVar ty ⟨g, j, none⟩ v).run P w = .ok () (w.setCell ⟨g, j, none⟩ v) := by
    cases hq : P.info? ty with
    | none => simp [hq] at hi
    | some i =>
      have hs : i.size = 1 := by simpa [hq] using hi
      have ha : (⟨g, j, none⟩ : Addr).add 0 = ⟨g, j, none⟩ := by unfold Addr.add; split <;> simp_all
      simp [storeVar, sizeOf, typeInfo, hq, cells_one h1, hs, storeCells, ha, run_store P w _ v _ h1, hc, hf]
  unfold Oper.wp execOp
  simp only [ho, hx, hy, Instr.storeAt, Instr.sureAddr, Sem.run_bind, Sem.run_pure, Result.andThen_ok, hrun]
  have := h _ (hat.set e) (grown_setCell (grown_refl w _))
  have e0 : a.put o.dst undef = a := by rw [hd]; rfl
  show K' (a.put o.dst undef) _
  rw [e0]
  exact this
end
set_option maxRecDepth 100000 in
set_option maxHeartbeats 1600000 in
theorem ageOne {B S g c : Nat} {w : World} {window most last : Int} {p : Option Addr} {k : K} (h : Has B w S window most last p c [k]) (hg : (Value.slice p 1 c).ownBlock = some g) (hSg : S ≠ g) (now : Int) (hnow : i64 now) (hold : oldB now window k = true) :
    Calls Try.prog 11 #[.pointer (some ⟨S, 0, none⟩), .int .i64 now] w fun e w' => e = .returned (.tuple #[]) ∧ Has B w' S window most last p c [] ∧ But2 S g w w' := by
  have hrow : At w S 39 (rowS window most last (.slice p 1 c)) := h.row
  have hown : OwnK B w (.slice p 1 c) [k] := h.own
  have hkok := h.ok k (by simp)
  have hwin := h.win
  have lg := (hown.lt g hg).2
  have lS := hrow.lt
  have HG := Lib.hid hg
  have HOWN := Lib.hid hown
  have HOLD := Lib.hid hold
  clear h hg hown hold
  go_enter Try.func11, Try.ntmps11
  go_wp2_with (first
    | ((with_reducible refine wpl_boxAt rfl 25 (.tmp 0) rfl #[.pointer (some ⟨S, 0, none⟩)] ?_ ?_); rfl; go_must (intro w1 hat1 hb1 hs1; clear hs1))
    | ((with_reducible refine wpl_boxAt rfl 3 (.tmp 1) rfl #[.int .i64 now] ?_ ?_); rfl; go_must (intro w2 hat2 hb2 hs2; clear hs2)))
  have hb := hb1.trans (hb2.mono hb1.size)
  have hatS := hrow.ext hb
  have hatp := hat1.ext hb2
  have T1 := hb1.size
  refine MonoJ.wp_region_J [some 4, some 5, some 6, some 7, some 8, some 9, some 10, some 11, some 12, none] [.pointer (some ⟨S, 0, none⟩), .pointer (some ⟨S, 0, none⟩), .pointer (some ⟨S, 0, none⟩), .pointer (some ⟨S, 2, none⟩), .slice p 1 c, .func (.func 15) #[] #[.pointer (some ⟨w1.heap.size, 0, none⟩), .pointer (some ⟨w.heap.size, 0, none⟩)], .slice p 0 c, .pointer (some ⟨S, 0, none⟩), .pointer (some ⟨S, 2, none⟩), undef] (JA S g B w2 window most last p c k) (by kernel_rfl) (by kernel_rfl) (by kernel_rfl) ?_ ?_ ?_
  · refine ⟨But2.drew _ _ _, fun h => absurd h (by decide), fun h => absurd h (by decide), ?_, ?_⟩
    · rw [if_neg (by decide)]; exact hatS.drew
    · rw [if_neg (by decide)]; exact (HOWN.out.below hb).below (Frame.ext_drew _)
  · simp only [MonoJ.OpGoals, and_true]
    have cellp : ∀ x, But2 S g w2 x → x.cell? ⟨w.heap.size, 0, none⟩ = some (.pointer (some ⟨S, 0, none⟩)) := fun x hx => by have := (hx.at hatp (by omega) (by omega)).cell 0; simpa using this
    refine ⟨?_, ?_, ?_, ?_, ?_, ?_, ?_, ?_, ?_, ?_⟩
    · intro l a x hJ hsz hjn hdep hsame hval
      have c0 := cellp x hJ.1
      have z2 : a.eval (.tmp 2) = .pointer (some ⟨w.heap.size, 0, none⟩) := hsame 2 (by decide)
      simp [Act.eval] at z2
      exact wp_val (.pointer (some ⟨S, 0, none⟩)) x (by simp [execOp, z2, go_sem, c0]) ⟨rfl, hJ.pure 0 (by decide) (by decide)⟩
    · intro l a x hJ hsz hjn hdep hsame hval
      have c0 := cellp x hJ.1
      have z2 : a.eval (.tmp 2) = .pointer (some ⟨w.heap.size, 0, none⟩) := hsame 2 (by decide)
      simp [Act.eval] at z2
      exact wp_val (.pointer (some ⟨S, 0, none⟩)) x (by simp [execOp, z2, go_sem, c0]) ⟨rfl, hJ.pure 1 (by decide) (by decide)⟩
    · intro l a x hJ hsz hjn hdep hsame hval
      have z : a.eval (.tmp 5) = .pointer (some ⟨S, 0, none⟩) := hval 1 5 (hdep ⟨1, .data⟩ (by simp) rfl) rfl
      simp [Act.eval] at z
      exact wp_val (.pointer (some ⟨S, 0, none⟩)) x (by simp [execOp, z, go_sem]) ⟨rfl, hJ.pure 2 (by decide) (by decide)⟩
    · intro l a x hJ hsz hjn hdep hsame hval
      have z : a.eval (.tmp 6) = .pointer (some ⟨S, 0, none⟩) := hval 2 6 (hdep ⟨2, .data⟩ (by simp) rfl) rfl
      simp [Act.eval] at z
      exact wp_val (.pointer (some ⟨S, 2, none⟩)) x (by simp [execOp, z, go_sem]) ⟨rfl, hJ.pure 3 (by decide) (by decide)⟩
    · intro l a x hJ hsz hjn hdep hsame hval
      have z : a.eval (.tmp 7) = .pointer (some ⟨S, 2, none⟩) := hval 3 7 (hdep ⟨3, .data⟩ (by simp) rfl) rfl
      simp [Act.eval] at z
      have h4 := MonoJ.getD_false hjn
      have h6 : l.getD 6 false = false := by
        cases h : l.getD 6 false with
        | false => rfl
        | true => rw [hJ.2.2.1 h] at h4; cases h4
      have h9 : l.getD 9 false = false := by
        cases h : l.getD 9 false with
        | false => rfl
        | true => rw [hJ.2.1 h] at h6; cases h6
      have c2 := hJ.2.2.2.1.cell 2
      rw [if_neg (by rw [h9]; decide)] at c2
      simp [rowS] at c2
      exact wp_val (.slice p 1 c) x (by simp [execOp, z, go_sem, c2]) ⟨rfl, hJ.pure 4 (by decide) (by decide)⟩
    · intro l a x hJ hsz hjn hdep hsame hval
      have z2 : a.eval (.tmp 2) = .pointer (some ⟨w.heap.size, 0, none⟩) := hsame 2 (by decide)
      have z3 : a.eval (.tmp 3) = .pointer (some ⟨w1.heap.size, 0, none⟩) := hsame 3 (by decide)
      simp [Act.eval] at z2 z3
      exact wp_val (.func (.func 15) #[] #[.pointer (some ⟨w1.heap.size, 0, none⟩), .pointer (some ⟨w.heap.size, 0, none⟩)]) x (by simp [execOp, z2, z3, go_sem]) ⟨rfl, hJ.pure 5 (by decide) (by decide)⟩
    · intro l a x hJ hsz hjn hdep hsame hval
      have l4 := hdep ⟨4, .data⟩ (by simp) rfl
      have z8 : a.eval (.tmp 8) = .slice p 1 c := hval 4 8 l4 rfl
      have z9 : a.eval (.tmp 9) = .func (.func 15) #[] #[.pointer (some ⟨w1.heap.size, 0, none⟩), .pointer (some ⟨w.heap.size, 0, none⟩)] := hval 5 9 (hdep ⟨5, .data⟩ (by simp) rfl) rfl
      simp [Act.eval] at z8 z9
      have h6 := MonoJ.getD_false hjn
      have h9 : l.getD 9 false = false := by
        cases h : l.getD 9 false with
        | false => rfl
        | true => rw [hJ.2.1 h] at h6; cases h6
      obtain ⟨j1, j2, j3, j4, j5⟩ := hJ
      rw [if_neg (by rw [h9]; decide)] at j4
      rw [if_neg (by rw [h6]; decide)] at j5
      refine wp_callF 14 _ _ rfl #[.slice p 1 c, .func (.func 15) #[] #[.pointer (some ⟨w1.heap.size, 0, none⟩), .pointer (some ⟨w.heap.size, 0, none⟩)]] (by simp [execOp, z8, z9, go_sem]) ((delOne p k B now window most last (.slice p 1 c) c w1.heap.size w.heap.size S x j5 hkok hnow hwin (j1.at hat2 (by omega) (by omega)) (j1.at hatp (by omega) (by omega)) j4 HOLD.out).mono ?_)
      rintro e x' ⟨g', e1, rfl, o1, hg'⟩
      have : g' = g := by have := HG.out; rw [e1] at this; exact Option.some.inj this
      subst this
      refine ⟨_, rfl, rfl, j1.grown hg' (.inr rfl), ?_, ?_, ?_, ?_⟩
      · rw [MonoJ.getD_set_ne (by decide), h9]; exact fun h => by cases h
      · intro _; exact set_mono l4
      · rw [MonoJ.getD_set_ne (by decide), h9, if_neg (by decide)]
        exact j4.grown hg' hSg
      · rw [MonoJ.getD_set_same (by rw [hsz]; decide), if_pos rfl]
        exact o1
    · intro l a x hJ hsz hjn hdep hsame hval
      have z : a.eval (.tmp 4) = .pointer (some ⟨S, 0, none⟩) := hval 0 4 (hdep ⟨0, .data⟩ (by simp) rfl) rfl
      simp [Act.eval] at z
      exact wp_val (.pointer (some ⟨S, 0, none⟩)) x (by simp [execOp, z, go_sem]) ⟨rfl, hJ.pure 7 (by decide) (by decide)⟩
    · intro l a x hJ hsz hjn hdep hsame hval
      have z : a.eval (.tmp 11) = .pointer (some ⟨S, 0, none⟩) := hval 7 11 (hdep ⟨7, .data⟩ (by simp) rfl) rfl
      simp [Act.eval] at z
      exact wp_val (.pointer (some ⟨S, 2, none⟩)) x (by simp [execOp, z, go_sem]) ⟨rfl, hJ.pure 8 (by decide) (by decide)⟩
    · intro l a x hJ hsz hjn hdep hsame hval
      have l6 := hdep ⟨6, .data⟩ (by simp) rfl
      have z12 : a.eval (.tmp 12) = .pointer (some ⟨S, 2, none⟩) := hval 8 12 (hdep ⟨8, .data⟩ (by simp) rfl) rfl
      have z10 : a.eval (.tmp 10) = .slice p 0 c := hval 6 10 l6 rfl
      have h9 := MonoJ.getD_false hjn
      obtain ⟨j1, j2, j3, j4, j5⟩ := hJ
      rw [if_neg (by rw [h9]; decide)] at j4
      rw [if_pos l6] at j5
      refine wp_storeC 37 (.tmp 12) (.tmp 10) rfl rfl S 2 39 (rowS window most last (.slice p 1 c)) (rowS window most last (.slice p 0 c)) (.slice p 0 c) z12 z10 j4 (by show (2 : Nat) < 4; decide) (by kernel_rfl) rfl rfl ?_
      intro x' hat' hg'
      have hne : (Value.slice p 0 c).ownBlock ≠ some S := fun e => hSg (by have := HG.out; rw [show (Value.slice p 1 c).ownBlock = (Value.slice p 0 c).ownBlock from by cases p <;> rfl, e] at this; exact Option.some.inj this)
      refine ⟨rfl, j1.grown hg' (.inl rfl), fun _ => set_mono l6, fun _ => set_mono (j3 l6), ?_, ?_⟩
      · rw [MonoJ.getD_set_same (by rw [hsz]; decide), if_pos rfl]; exact hat'
      · rw [MonoJ.getD_set_ne (by decide), if_pos l6]
        exact j5.kept hg' hne j4 (noByteS _ _ _ _ _ _)
  · intro x hJ
    obtain ⟨j1, j2, j3, j4, j5⟩ := hJ
    rw [if_pos (by decide)] at j4
    rw [if_pos (by decide)] at j5
    simp [Act.put]
    go_end0
    refine ⟨rfl, ⟨j4, j5, (fun k hk => by cases hk), hwin⟩, ?_⟩
    exact ⟨j1.os.trans hb.os, j1.tape.trans hb.tape, j1.output.trans hb.output, Nat.le_trans hb.size j1.size, fun j hj h1 h2 => (j1.block j (Nat.lt_of_lt_of_le hj hb.size) h1 h2).trans (hb.block j hj)⟩
end Go.Proofs.Ytmbhiajhlfjknaa.Dup
