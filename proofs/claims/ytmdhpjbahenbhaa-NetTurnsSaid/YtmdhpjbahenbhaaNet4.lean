/-
  What is known while a frame is laid behind a list of frames (plain). No walk.
-/
import Derived.Test.YtmdhpjbahenbhaaNet3
import Derived.Test.YtmdhpjbahenbhaaMonoA
import Derived.Test.YtmdhpjbahenbhaaOpsW
namespace Go.Proofs.Ytmdhpjbahenbhaa.Net
open Go.RowKit Mem Cells Ops Go.Maps
set_option linter.unusedVariables false
set_option linter.unusedSimpArgs false

section
variable {P : Program} {w : World} {o : Oper} {a : Act} {K : Act → World → Prop} {Q : Exit → Act → World → Prop}
theorem wp_storeC (ty : TypeId) (x y : Operand) (ho : o.op = .store ty x y) (hd : o.dst = none) (g j : Nat) (T : TypeId) (cs ds : Array Value) (v : Value)
    (hx : a.eval x = .pointer (some ⟨g, j, none⟩)) (hy : a.eval y = v) (hat : At w g T cs) (hj : j < cs.size) (hi : (P.info? ty).map (·.size) = some 1) (h1 : v.oneCell' = true) (e : cs.set! j v = ds)
    (h : ∀ w', At w' g T ds → w.grownBy w' (some g) → K a w') : o.wp P a w K Q := by
  have hc := hat.cell j
  rw [Array.getElem?_eq_getElem hj] at hc
  have hf := hat.free j
  have hrun : (storeVar ty ⟨g, j, none⟩ v).run P w = .ok () (w.setCell ⟨g, j, none⟩ v) := by
    cases hq : P.info? ty with
    | none => simp [hq] at hi
    | some i =>
      have hs : i.size = 1 := by simpa [hq] using hi
      have ha : (⟨g, j, none⟩ : Addr).add 0 = ⟨g, j, none⟩ := by unfold Addr.add; split <;> simp_all
      simp [storeVar, sizeOf, typeInfo, hq, cells_one h1, hs, storeCells, ha, run_store P w _ v _ h1, hc, hf]
  unfold Oper.wp execOp
  simp only [ho, hx, hy, Instr.storeAt, Instr.sureAddr, Sem.run_bind, Sem.run_pure, Result.andThen_ok, hrun]
  have := h _ (hat.set e) (grown_setCell (grown_refl w _))
  have e0 : a.put o.dst undef = a := by rw [hd]; rfl
  show K (a.put o.dst undef) _
  rw [e0]
  exact this
theorem wp_appendV (t : TypeId) (s x : Operand) (ho : o.op = .call { callee := .builtin .append, args := #[s, x], argTypes := #[t, t] }) (vs vx r : Value) (w' : World) (hs : a.eval s = vs) (hx : a.eval x = vx)
    (hrun : (Builtin.append_ #[t, t] o.type #[vs, vx]).run P w = .ok r w') (h : K (a.put o.dst r) w') : o.wp P a w K Q := by
  unfold Oper.wp execOp
  simp only [ho, resolve, invoke, builtin, Sem.run_bind, Sem.run_pure, Result.andThen_ok, List.map_toArray, List.map_cons, List.map_nil, hs, hx, hrun]
  exact h
end
theorem more_since {X : Nat → Prop} {a b c : World} (h : a.heap.size ≤ b.heap.size) : ∀ k, more X b c k → more X a c k := by
  intro k hk
  rcases hk with h1 | h1
  · exact .inl h1
  · exact .inr ⟨by omega, h1.2⟩
/-- The slot is this frame, its bytes the call's own. -/
def frameP (B : Nat) (f : F) : Mono.Prp := ⟨fun v w => ∃ d, v = .agg (rowF f d).toArray ∧ Row .u8 5 B w d f.bytes, fun _ _ _ h hb => by obtain ⟨d, h1, h2⟩ := h; exact ⟨d, h1, h2.below hb⟩⟩
/-- The slot is a slice of this one frame, in a block of its own. -/
def sliceP (B : Nat) (f : F) : Mono.Prp := ⟨fun v w => ∃ g d, v = .slice (some ⟨g, 0, none⟩) 1 1 ∧ At w g 35 (rowF f d).toArray ∧ Row .u8 5 B w d f.bytes, fun _ _ _ h hb => by obtain ⟨g, d, h1, h2, h3⟩ := h; exact ⟨g, d, h1, h2.ext hb, h3.below hb⟩⟩
theorem buildF (f : F) (d : Value) (x : World) : (Instr.buildSlice 44 1 #[(0, .agg (rowF f d).toArray)]).run Try.prog x = .ok (.slice (some ⟨x.heap.size, 0, none⟩) 1 1) (x.alloc (.cells (rowF f d).toArray 35)) := by kernel_rfl
/-- Behind the append. -/
structure Mid (X : Nat → Prop) (w0 : World) (S T : Nat) (row0 : Array Value) (v0 : Value) (zs : List (F × Value)) (f : F) (v : Value) (x : World) : Prop where
  grown : w0.grownBy x v0.ownBlock
  row : At x S T row0
  list : ∃ d, OwnF (more X w0 x) x v (zs ++ [(f, d)])
/-- Behind the store. -/
def Fin (X : Nat → Prop) (w0 : World) (S T : Nat) (row0 : Array Value) (v0 : Value) (zs : List (F × Value)) (f : F) (v : Value) (x : World) : Prop :=
  ∃ y, Mid X w0 S T row0 v0 zs f v y ∧ y.grownBy x (some S) ∧ At x S T (row0.set! 1 v)
theorem mid_append {X : Nat → Prop} {w0 w : World} {S T : Nat} {row0 : Array Value} {v0 : Value} {zs : List (F × Value)} {f : F} {d : Value} {g : Nat} (ty : TypeId) (hl : OwnF X w0 v0 zs) (hrow : At w0 S T row0) (hT : T ≠ 35) (hb : Below w0.heap.size w0 w)
    (hat : At w g 35 (rowF f d).toArray) (hd : Row .u8 5 w0.heap.size w d f.bytes) (hz : zs.length ≤ 99999) :
    ∃ v x, (Builtin.append_ #[44, 44] ty #[v0, .slice (some ⟨g, 0, none⟩) 1 1]).run Try.prog w = .ok v x ∧ Mid X w0 S T row0 v0 zs f v x := by
  have hd' : Own8 (more X w0 w) w d f.bytes := ⟨hd.mono (Nat.zero_le _), fun k hk => .inr (hd.lt k hk)⟩
  have hl' := hl.below hb
  obtain ⟨v, x, hr, ho, hg⟩ := (hl'.mono (Y := more X w0 w) more_self).append ty f d g hat hd' (fun z hz k hk hk2 => by
    have h1 := ((hl.bytes z hz).1.lt k hk).2
    have h2 := (hd.lt k hk2).1
    omega) hz
  have hr1 := hrow.ext hb
  refine ⟨v, x, hr, grown_trans (grown_below _ hb) hg, ?_, d, ho.mono (more_more hb.size hg.size)⟩
  have hne := own_ne hl'.row hr1 (Ne.symm hT)
  unfold At at hr1 ⊢
  rw [hg.block S (At.lt hr1) (fun e => hne e.symm)]
  exact hr1
theorem fin_store {X : Nat → Prop} {w0 x y : World} {S T : Nat} {row0 : Array Value} {v0 : Value} {zs : List (F × Value)} {f : F} {v : Value} (h : Mid X w0 S T row0 v0 zs f v x) (hg : x.grownBy y (some S)) (hat : At y S T (row0.set! 1 v)) : Fin X w0 S T row0 v0 zs f v y := ⟨x, h, hg, hat⟩
theorem Mid.one {X : Nat → Prop} {w0 x : World} {S T : Nat} {row0 : Array Value} {v0 : Value} {zs : List (F × Value)} {f : F} {v : Value} (h : Mid X w0 S T row0 v0 zs f v x) : v.oneCell' = true := by
  obtain ⟨d, hd⟩ := h.list
  obtain ⟨p, c, rfl, _⟩ := hd.shape
  rfl
/-- The list and the frame of all that is old. -/
theorem Fin.out {X : Nat → Prop} {w0 x : World} {S T : Nat} {row0 : Array Value} {v0 : Value} {zs : List (F × Value)} {f : F} {v : Value} (h : Fin X w0 S T row0 v0 zs f v x) (hl : OwnF X w0 v0 zs) (hS : X S) (h35 : T ≠ 35) (h5 : T ≠ 5) :
    ButX X w0 x ∧ At x S T (row0.set! 1 v) ∧ ∃ d, OwnF (more X w0 x) x v (zs ++ [(f, d)]) := by
  obtain ⟨y, hm, hg, hat⟩ := h
  obtain ⟨d, ho⟩ := hm.list
  refine ⟨(ButX.ofGrown hm.grown hl.mine).trans ((ButX.ofGrown hg (fun k e => by cases e; exact hS)).mono more_self), hat, d, (ho.at_ hg hm.row h35 h5).mono (more_le hg.size)⟩
/-- The net behind it. -/
theorem Fin.net {X : Nat → Prop} {w0 x : World} {S : Nat} {hosts : Int} {fs : List F} {cut : Int → Int → Int → Bool} {n : Nat} {zs : List (F × Value)} {p : Option Addr} {m c b : Nat} {D : DataW Unit} {f : F} {v : Value}
    (h : Has X w0 S hosts fs cut n zs p m c b D) (hf : Fin X w0 S 61 #[.int .i64 hosts, .slice p m c, .map (some b)] (.slice p m c) zs f v x) (hl : m < 1024) (hok : f.ok) :
    Net (more X w0 x) x S hosts (fs ++ [f]) cut n ∧ ButX X w0 x := by
  obtain ⟨h1, h2, d, h3⟩ := hf.out h.list h.xS (by decide) (by decide)
  obtain ⟨y, hm, hg, _⟩ := hf
  obtain ⟨p', c', rfl, _⟩ := h3.shape
  have hbS : some b ≠ (Value.slice p m c).ownBlock := by
    intro e
    obtain ⟨cur, hc⟩ := own_at h.list.row e.symm
    obtain ⟨es, clock, h5, _⟩ := h.map
    rw [show w0.heap[b]? = _ from hc] at h5
    cases h5
  have hbS' : some b ≠ some S := by
    intro e
    have e' : b = S := Option.some.inj e
    obtain ⟨es, clock, h5, _⟩ := h.map
    rw [e', show w0.heap[S]? = _ from h.row] at h5
    cases h5
  have hfl := h.flen
  have e1 : (fs ++ [f]).length = m + 1 := by simp [hfl]
  refine ⟨⟨zs ++ [(f, d)], p', _, c', b, D, h2, more_self _ h.xS, more_self _ h.xb, by rw [List.map_append, h.fst]; rfl, rfl, h3, (h.map.kept hm.grown hbS).kept hg hbS', h.says, ⟨by rw [e1]; omega, fun g hg => ?_⟩, h.few, h.hosts⟩, h1⟩
  rcases List.mem_append.1 hg with hg | hg
  · exact h.ok.2 g hg
  · rw [List.mem_singleton] at hg; subst hg; exact hok
end Go.Proofs.Ytmdhpjbahenbhaa.Net
