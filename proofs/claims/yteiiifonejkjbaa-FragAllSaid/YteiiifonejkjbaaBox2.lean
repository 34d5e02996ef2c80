/-
  How a box stays while other blocks turn; lists of messages of the call's own (OwnG). No walk.
-/
import Derived.Test.YteiiifonejkjbaaWhole
namespace Go.Proofs.Yteiiifonejkjbaa.Bx
open Go.RowKit Mem Cells Ops Pcs Go.Maps Go.Proofs.Yteiiifonejkjbaa.Open
set_option linter.unusedVariables false
set_option linter.unusedSimpArgs false

section
variable {w w' : World} {Z g b1 b2 : Nat} {x : S} {vs : Int → Value} {vw : Int → Int → Value} {m1 m2 : Lit → Option Value}
theorem row_map {B b : Nat} {v : Value} {xs : List Int} (h : Row .u8 5 B w v xs) (hg : w.grownBy w' (some b)) (hm : ∃ es clock, w.heap[b]? = some (.map es clock)) : Row .u8 5 B w' v xs := by
  refine h.kept hg (.inr fun e => ?_)
  obtain ⟨cur, hc⟩ := own_at h e
  obtain ⟨es, clock, hb⟩ := hm
  have h2 : w.heap[b]? = some (.cells cur 5 (0, 0)) := hc
  rw [hb] at h2
  cases h2
theorem MV.isMap {k b c : Nat} {m : Lit → Option Value} (h : MV w k b m c) : ∃ es clock, w.heap[b]? = some (.map es clock) := by
  obtain ⟨D, ⟨es, clock, hb, _⟩, _⟩ := h
  exact ⟨es, clock, hb⟩
theorem at_map {g T b : Nat} {cs : Array Value} (h : At w g T cs) (hg : w.grownBy w' (some b)) (hm : ∃ es clock, w.heap[b]? = some (.map es clock)) : At w' g T cs := by
  refine h.kept' hg fun e => ?_
  obtain ⟨es, clock, hb⟩ := hm
  have h2 : w.heap[g]? = some (.cells cs T (0, 0)) := h
  rw [Option.some.inj e, h2] at hb
  cases hb
/-- A block of another kind turns. -/
theorem Has.grownT (h : Has Z w g b1 b2 x vs vw m1 m2) {q T : Nat} {cs : Array Value} (hg : w.grownBy w' (some q)) (hat : At w q T cs) (h1 : T ≠ 75) (h2 : T ≠ 5) : Has Z w' g b1 b2 x vs vw m1 m2 :=
  ⟨h.row.kept' hg (fun e => at_ne hat h.row h1 (Option.some.inj e)), h.map1.kept hg (fun e => h.map1.ne_at hat (Option.some.inj e)), h.map2.kept hg (fun e => h.map2.ne_at hat (Option.some.inj e)), h.ne, h.says1, h.says2,
    fun a ha => (h.rows1 a ha).kept hg (.inr (own_ne (h.rows1 a ha) hat (fun e => h2 e.symm))), fun y hy => (h.rows2 y hy).kept hg (.inr (own_ne (h.rows2 y hy) hat (fun e => h2 e.symm))), h.ok⟩
/-- What a call's own list holds is written, or made. -/
theorem Has.grownO (h : Has Z w g b1 b2 x vs vw m1 m2) {B e k n : Nat} {v : Value} {us : List Value} (hg : w.grownBy w' v.ownBlock) (ho : w.ownsRow B e k v n us) (h1 : e ≠ 75) (h2 : e ≠ 5) : Has Z w' g b1 b2 x vs vw m1 m2 := by
  cases hv : v.ownBlock with
  | none =>
    rw [hv] at hg
    exact h.below ⟨hg.os, hg.tape, hg.output, hg.size, fun i hi => hg.block i hi (by simp)⟩
  | some q =>
    obtain ⟨cur, hc⟩ := own_at ho hv
    rw [hv] at hg
    exact h.grownT hg hc h1 h2
theorem Has.lt (h : Has Z w g b1 b2 x vs vw m1 m2) : g < w.heap.size ∧ b1 < w.heap.size ∧ b2 < w.heap.size := ⟨h.row.lt, h.map1.lt, h.map2.lt⟩

/-! Lists of messages. -/
def flatG (zs : List (G × Value)) : List Value := zs.flatMap fun z => rowG z.1 z.2
theorem flatG_append (xs ys : List (G × Value)) : flatG (xs ++ ys) = flatG xs ++ flatG ys := by simp [flatG]
theorem flatG_one (z : G × Value) : flatG [z] = rowG z.1 z.2 := by simp [flatG]
theorem flatG_length (zs : List (G × Value)) : (flatG zs).length = zs.length * 2 := by
  induction zs with
  | nil => rfl
  | cons z zs ih =>
    have e : flatG (z :: zs) = rowG z.1 z.2 ++ flatG zs := rfl
    rw [e, List.length_append, ih, List.length_cons]
    simp [rowG]; omega
theorem flatG_get (zs : List (G × Value)) (i : Nat) (z : G × Value) (h : zs[i]? = some z) (j : Nat) (hj : j < 2) : (flatG zs)[i * 2 + j]? = (rowG z.1 z.2)[j]? := by
  induction zs generalizing i with
  | nil => simp at h
  | cons y zs ih =>
    have e : flatG (y :: zs) = rowG y.1 y.2 ++ flatG zs := rfl
    have hl : (rowG y.1 y.2).length = 2 := rfl
    rw [e]
    cases i with
    | zero =>
      simp at h
      subst h
      rw [List.getElem?_append_left (by rw [hl]; omega)]
      simp
    | succ i =>
      rw [List.getElem?_append_right (by rw [hl]; omega), hl, show (i + 1) * 2 + j - 2 = i * 2 + j from by omega]
      exact ih i (by simpa using h)
def OwnG (B : Nat) (w : World) (v : Value) (al : List G) : Prop := ∃ zs : List (G × Value), zs.map Prod.fst = al ∧ w.ownsRow B 32 2 v al.length (flatG zs) ∧ ∀ z ∈ zs, Row .u8 5 0 w z.2 z.1.data
variable {B : Nat} {v : Value} {al : List G}
theorem OwnG.nil (B : Nat) (w : World) : OwnG B w (.slice none 0 0) [] := ⟨[], rfl, World.ownsRow_nil _ _ _ _, fun z hz => (by cases hz)⟩
theorem OwnG.below (h : OwnG B w v al) (hb : Below w.heap.size w w') : OwnG B w' v al := by
  obtain ⟨zs, h1, h2, h3⟩ := h
  exact ⟨zs, h1, h2.kept (grown_below none hb) (by cases v.ownBlock <;> simp), fun z hz => Row.below (h3 z hz) hb⟩
theorem OwnG.lt (h : OwnG B w v al) (q : Nat) (hq : v.ownBlock = some q) : B ≤ q ∧ q < w.heap.size := by
  obtain ⟨zs, h1, h2, h3⟩ := h
  exact h2.lt q hq
/-- A block turns that is neither the list's nor holds bytes. -/
theorem OwnG.grownT (h : OwnG B w v al) {q T : Nat} {cs : Array Value} (hg : w.grownBy w' (some q)) (hat : At w q T cs) (h1 : v.ownBlock ≠ some q) (h2 : T ≠ 5) : OwnG B w' v al := by
  obtain ⟨zs, e1, e2, e3⟩ := h
  exact ⟨zs, e1, e2.kept hg (.inr h1), fun z hz => (e3 z hz).kept hg (.inr (own_ne (e3 z hz) hat (fun e => h2 e.symm)))⟩
theorem OwnG.map (h : OwnG B w v al) {b : Nat} (hg : w.grownBy w' (some b)) (hm : ∃ es clock, w.heap[b]? = some (.map es clock)) : OwnG B w' v al := by
  obtain ⟨zs, e1, e2, e3⟩ := h
  refine ⟨zs, e1, e2.kept hg (.inr fun e => ?_), fun z hz => row_map (e3 z hz) hg hm⟩
  obtain ⟨cur, hc⟩ := own_at e2 e
  obtain ⟨es, clock, hb⟩ := hm
  have h2 : w.heap[b]? = some (.cells cur 32 (0, 0)) := hc
  rw [hb] at h2
  cases h2
theorem OwnG.shape (h : OwnG B w v al) : ∃ p c, v = .slice p al.length c ∧ al.length ≤ c ∧ c ≤ maxLen := by
  obtain ⟨zs, _, ⟨_, ⟨rfl, hn⟩ | ⟨q, cap, cur, rfl, hb, hg, hle, hm, _⟩⟩, _⟩ := h
  · rw [hn]; exact ⟨none, 0, rfl, by omega, by simp⟩
  · exact ⟨_, cap, rfl, hle, hm⟩
theorem OwnG.elem {q c n : Nat} (h : OwnG B w (.slice (some ⟨q, 0, none⟩) n c) al) (i : Nat) (a : G) (hi : al[i]? = some a) :
    ∃ p m, w.rangeAt q (i * 2) (rowG a (.slice p a.data.length m)) ∧ Row .u8 5 0 w (.slice p a.data.length m) a.data := by
  obtain ⟨zs, h1, h3, h4⟩ := h
  have hzl : zs.length = al.length := by rw [← h1, List.length_map]
  have hil : i < al.length := (List.getElem?_eq_some_iff.1 hi).1
  have hz : zs[i]? = some zs[i] := List.getElem?_eq_getElem (by omega)
  have ha : zs[i].1 = a := by
    have : al[i] = a := (List.getElem?_eq_some_iff.1 hi).2
    rw [← this]
    simp [← h1]
  have hr := h4 zs[i] (List.getElem_mem _)
  rw [ha] at hr
  obtain ⟨p, m, e, _⟩ := hr.reads
  refine ⟨p, m, fun j u hj => ?_, e ▸ hr⟩
  rw [← e, ← ha] at hj
  have hj7 : j < 2 := (List.getElem?_eq_some_iff.1 hj).1
  have hc := h3.cells (g := q) rfl (i * 2 + j) u (by rw [flatG_get zs i zs[i] hz j hj7]; exact hj)
  rw [add_none, Nat.zero_add] at hc
  exact hc
theorem OwnG.block (h : OwnG B w v al) (h0 : 0 < al.length) : ∃ q c, v = .slice (some ⟨q, 0, none⟩) al.length c ∧ al.length ≤ c ∧ c ≤ maxLen ∧ B ≤ q ∧ q < w.heap.size := by
  have hlt := h.lt
  obtain ⟨zs, _, ⟨_, ⟨rfl, hn⟩ | ⟨q, cap, cur, rfl, hb, hg, hle, hm, _⟩⟩, _⟩ := h
  · omega
  · exact ⟨q, cap, rfl, hle, hm, hb, (hlt q rfl).2⟩
theorem info32 : (Try.prog.info? 32).map (fun i => (i.zero, i.size, i.bytes)) = some (some (.agg #[.int .u16 0, .slice none 0 0]), 2, 32) := by kernel_rfl
theorem build49 (a : G) (d : Value) (w : World) : (Instr.buildSlice 49 1 #[(0, .agg (rowG a d).toArray)]).run Try.prog w = .ok (.slice (some ⟨w.heap.size, 0, none⟩) 1 1) (w.alloc (.cells (rowG a d).toArray 32)) := by
  kernel_rfl
theorem OwnG.one (w : World) (a : G) (d : Value) (hd : Row .u8 5 0 w d a.data) : OwnG w.heap.size (w.alloc (.cells (rowG a d).toArray 32)) (.slice (some ⟨w.heap.size, 0, none⟩) 1 1) [a] := by
  refine ⟨[(a, d)], rfl, ⟨by rw [flatG_length]; rfl, .inr ⟨w.heap.size, 1, (rowG a d).toArray, rfl, Nat.le_refl _, At.new _ _ _, Nat.le_refl _, by decide, rfl, ?_⟩⟩, fun z hz => ?_⟩
  · rw [flatG_one]; rfl
  · rw [List.mem_singleton] at hz
    subst hz
    exact Row.below hd ((Below.refl _ _).alloc (Nat.le_refl _) _)
theorem run_pushG (h : OwnG B w v al) (a : G) (d : Value) (hd : Row .u8 5 0 w d a.data) (hB : B ≤ w.heap.size) (hn : al.length ≤ 999999) :
    ∃ v' w', (Builtin.append_ #[49, 49] 49 #[v, .slice (some ⟨w.heap.size, 0, none⟩) 1 1]).run Try.prog (w.alloc (.cells (rowG a d).toArray 32)) = .ok v' w' ∧ OwnG B w' v' (al ++ [a]) ∧ w.grownBy w' v.ownBlock := by
  obtain ⟨i, hi, hz0, hz1, hz2⟩ := info_parts info32
  have hal := (Below.refl w.heap.size w).alloc (Nat.le_refl _) (.cells (rowG a d).toArray 32)
  obtain ⟨ys, e1, e2, e3⟩ := OwnG.below h hal
  have hat := At.new w 32 (rowG a d).toArray
  have hd' := Row.below hd hal
  obtain ⟨p, c, rfl, _⟩ := id hd.reads
  have hone : ∀ u ∈ flatG [(a, .slice p a.data.length c)], u.oneCell' = true := by
    intro u hu
    rw [flatG_one] at hu
    simp [rowG] at hu
    rcases hu with rfl | rfl <;> rfl
  obtain ⟨v', w', hr, k2, k3, k4⟩ := run_append_own (P := Try.prog) (w.alloc (.cells (rowG a (.slice p a.data.length c)).toArray 32)) B 49 49 32 i _ 2 32 Try.underlying49 hi hz0 hz1 hz2 rfl (by omega) v al.length (flatG ys) e2 ⟨w.heap.size, 0, none⟩ 1 1 (flatG [(a, .slice p a.data.length c)]) rfl
    (fun j u hj => by rw [add_none, Nat.zero_add, hat.cell j, ← hj, flatG_one]; simp) hone (by simp [maxLen]; omega) (by omega) (by simp; omega)
  refine ⟨v', w', hr, ⟨ys ++ [(a, .slice p a.data.length c)], by rw [List.map_append, e1]; rfl, ?_, ?_⟩, grown_trans (grown_below _ hal) k3⟩
  · rw [flatG_append, List.length_append]
    exact k2
  · intro z hz
    have key : ∀ z : G × Value, Row .u8 5 0 (w.alloc (.cells (rowG a (.slice p a.data.length c)).toArray 32)) z.2 z.1.data → Row .u8 5 0 w' z.2 z.1.data := fun z hz => hz.kept k3 (own_ne2 hz e2 (by decide))
    rcases List.mem_append.1 hz with hz | hz
    · exact key z (e3 z hz)
    · rw [List.mem_singleton] at hz
      subst hz
      exact key _ hd'
end

/-! A drawn region in which one block is made, and written whole. -/
structure JN (w0 : World) (ia js : Nat) (T : TypeId) (zero new : Array Value) (l : Array Bool) (u : Nat → Value) (x : World) : Prop where
  below : Below w0.heap.size w0 x
  cell : l.getD ia false = true → ∃ q, u ia = .pointer (some ⟨q, 0, none⟩) ∧ w0.heap.size ≤ q ∧ At x q T (if l.getD js false = true then new else zero)
  ord : l.getD js false = true → l.getD ia false = true
section
variable {w0 : World} {ia js : Nat} {T : TypeId} {zero new : Array Value} {l : Array Bool} {u : Nat → Value} {x y : World}
theorem setNe {l : Array Bool} {i j : Nat} (h : i ≠ j) : (l.setIfInBounds j true).getD i false = l.getD i false := MonoU.getD_set_ne (Ne.symm h)
theorem upd_ne {u : Nat → Value} {j : Nat} {v : Value} {i : Nat} (h : i ≠ j) : MonoU.upd u j v i = u i := by simp [MonoU.upd, h]
theorem upd_same {u : Nat → Value} {j : Nat} {v : Value} : MonoU.upd u j v j = v := by simp [MonoU.upd]
theorem JN.start (n : Nat) (u : Nat → Value) : JN w0 ia js T zero new (Array.replicate n false) u w0.drew := by
  have f : ∀ i, (Array.replicate n false).getD i false = false := fun i => by simp [Array.getD_eq_getD_getElem?, Array.getElem?_replicate]; split <;> rfl
  refine ⟨(Below.refl _ _).drew, ?_, ?_⟩ <;> (intro h; rw [f] at h; cases h)
theorem JN.pure (h : JN w0 ia js T zero new l u x) (j : Nat) (v : Value) (ha : ia ≠ j) (hs : js ≠ j) : JN w0 ia js T zero new (l.setIfInBounds j true) (MonoU.upd u j v) x := by
  refine ⟨h.below, ?_, ?_⟩
  · rw [setNe ha, setNe hs, upd_ne ha]; exact h.cell
  · rw [setNe ha, setNe hs]; exact h.ord
theorem JN.stepA (h : JN w0 ia js T zero new l u x) (hne : js ≠ ia) (hl : ia < l.size) (hns : l.getD js false = false) (hb : Below x.heap.size x y) (hat : At y x.heap.size T zero) : JN w0 ia js T zero new (l.setIfInBounds ia true) (MonoU.upd u ia (.pointer (some ⟨x.heap.size, 0, none⟩))) y := by
  refine ⟨h.below.trans (hb.mono h.below.size), fun _ => ⟨_, upd_same, h.below.size, ?_⟩, ?_⟩
  · rw [setNe hne, hns, if_neg (by decide)]; exact hat
  · rw [setNe hne, hns]; intro h; cases h
theorem JN.stepS (h : JN w0 ia js T zero new l u x) (hne : ia ≠ js) (hl : js < l.size) (hla : l.getD ia false = true) {q : Nat} (e : u ia = .pointer (some ⟨q, 0, none⟩)) (hq : w0.heap.size ≤ q) (hat : At y q T new) (hg : x.grownBy y (some q)) {v : Value} : JN w0 ia js T zero new (l.setIfInBounds js true) (MonoU.upd u js v) y := by
  refine ⟨h.below.grown hg h.below.size (fun r er => by cases er; exact hq), fun _ => ⟨q, by rw [upd_ne hne]; exact e, hq, ?_⟩, fun _ => by rw [setNe hne]; exact hla⟩
  rw [MonoU.getD_set_same hl, if_pos rfl]; exact hat
end
section
variable {P : Program} {w : World} {o : Oper} {a : Act} {K : Act → World → Prop} {Q : Exit → Act → World → Prop}
theorem wp_allocN (T : TypeId) (ho : o.op = .alloc T) (cs : Array Value) (hz : ((P.info? T).bind (·.zero)).map (·.cells) = some cs) (h : ∀ w', At w' w.heap.size T cs → Below w.heap.size w w' → K (a.put o.dst (.pointer (some ⟨w.heap.size, 0, none⟩))) w') : o.wp P a w K Q := by
  cases hi : P.info? T with
  | none => simp [hi] at hz
  | some i =>
    cases hz' : i.zero with
    | none => simp [hi, hz'] at hz
    | some z =>
      have hc : z.cells = cs := by simpa [hi, hz'] using hz
      have hrun : (Instr.alloc T true (.tuple #[])).run P w = .ok (.pointer (some ⟨w.heap.size, 0, none⟩)) (w.alloc (.cells cs T)) := by
        simp [Instr.alloc, zeroValue, typeInfo, hi, hz', newVar, newRow, hc]
      unfold Oper.wp execOp
      simp only [ho, Sem.run_bind, hrun, Result.andThen_ok]
      exact h _ (At.new _ _ _) ((Below.refl _ _).alloc (Nat.le_refl _) _)
theorem wp_storeN (ty : TypeId) (x y : Operand) (ho : o.op = .store ty x y) (hd : o.dst = none) (g : Nat) (T : TypeId) (cs ds : Array Value)
    (hx : a.eval x = .pointer (some ⟨g, 0, none⟩)) (hy : a.eval y = .agg ds) (hat : At w g T cs) (hi : (P.info? ty).map (·.size) = some ds.size) (hs : cs.size = ds.size) (h1 : ds.all (·.oneCell') = true)
    (h : ∀ w', At w' g T ds → w.grownBy w' (some g) → K (a.put o.dst undef) w') : o.wp P a w K Q := by
  refine wp_store_row ty x y ho g ds hx hy T cs hat hi hs h1 ?_
  exact h _ hat.row ⟨rfl, rfl, rfl, by simp, fun q _ hq => setRow_other _ _ _ _ (fun e => hq (by rw [e]))⟩
end
section
variable {P : Program} {w : World} {ops : Array Oper} {rest : List Oper} {o o1 o2 : Oper} {a : Act} {Q : Exit → Act → World → Prop}
/-- One message more, behind a list of the call's own. -/
theorem wpl_pushG (d1 : Nat) (x s : Operand) (g1 : o1.guard = none) (ho1 : o1.op = .buildSlice 49 1 #[(0, x)]) (hd1 : o1.dst = some d1) (g2 : o2.guard = none) (ho2 : o2.op = .call { callee := .builtin .append, args := #[s, .tmp d1], argTypes := #[49, 49] }) (ht2 : o2.type = 49)
    (b : G) (d : Value) (hx : a.eval x = .agg (rowG b d).toArray) (B : Nat) (v : Value) (al : List G) (hs : ∀ u, (a.put (some d1) u).eval s = v) (hdv : ∀ u, (a.put (some d1) u).eval (.tmp d1) = u) (hown : OwnG B w v al)
    (hd : Row .u8 5 0 w d b.data) (hB : B ≤ w.heap.size) (hn : al.length ≤ 999999)
    (h : ∀ v' w', OwnG B w' v' (al ++ [b]) → w.grownBy w' v.ownBlock → wpList Try.prog ops Q rest ((a.put (some d1) (.slice (some ⟨w.heap.size, 0, none⟩) 1 1)).put o2.dst v') w') : wpList Try.prog ops Q (o1 :: o2 :: rest) a w := by
  obtain ⟨v', w', hr, hq, hg⟩ := run_pushG hown b d hd hB hn
  refine wpList_plain g1 fun K hK => ?_
  have hp : (#[(0, x)] : Array (Nat × Operand)).map (fun (i, x) => (i, a.eval x)) = #[(0, .agg (rowG b d).toArray)] := by simp [hx]
  unfold Oper.wp execOp
  simp only [ho1, hp, Sem.run_bind, build49, Result.andThen_ok]
  refine hK _ _ ?_
  rw [hd1]
  refine wpList_plain g2 fun K2 hK2 => ?_
  unfold Oper.wp execOp
  simp only [ho2, ht2, resolve, invoke, builtin, Sem.run_bind, Sem.run_pure, Result.andThen_ok, List.map_toArray, List.map_cons, List.map_nil, hs, hdv, hr]
  exact hK2 _ _ (h v' w' hq hg)
theorem wpl_deleteR (hgd : o.guard = none) (m x : Operand) (t k : TypeId) (hop : o.op = Op.call { callee := Callee.builtin Builtin.delete, args := #[m, x], argTypes := #[t, k] }) (b : Nat) (key : Value) (w' : World)
    (hm : a.eval m = .map (some b)) (hx : a.eval x = key) (hrun : (Builtin.delete_ #[t, k] o.type #[.map (some b), key]).run P w = .ok (.tuple #[]) w') (K : wpList P ops Q rest (a.put o.dst (.tuple #[])) w') : wpList P ops Q (o :: rest) a w := by
  refine wpList_plain hgd fun K' hK' => ?_
  unfold Oper.wp
  simp [execOp, hop, resolve, invoke, builtin, hm, hx, hrun, Result.andThen]
  exact hK' _ _ K
theorem wpl_updateR (hgd : o.guard = none) (m x v : Operand) (t : TypeId) (hop : o.op = Op.mapUpdate t m x v) (b : Nat) (key val : Value) (w' : World)
    (hm : a.eval m = .map (some b)) (hx : a.eval x = key) (hv : a.eval v = val) (hrun : (Instr.mapUpdate t (.map (some b)) key val).run P w = .ok () w') (K : wpList P ops Q rest (a.put o.dst undef) w') : wpList P ops Q (o :: rest) a w := by
  refine wpList_plain hgd fun K' hK' => ?_
  unfold Oper.wp
  simp [execOp, hop, hm, hx, hv, hrun, Result.andThen]
  exact hK' _ _ K
end
end Go.Proofs.Yteiiifonejkjbaa.Bx
