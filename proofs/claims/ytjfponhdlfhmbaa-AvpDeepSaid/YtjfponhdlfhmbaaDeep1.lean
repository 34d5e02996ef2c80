/-
  Attributes within one another (plain); lists of items of the call's own (OwnI); append of one item. No walk.
-/
import Derived.Test.YtjfponhdlfhmbaaDeep0
import Derived.Test.YtjfponhdlfhmbaaReg
import Derived.Test.YtjfponhdlfhmbaaMonoA
import Derived.Test.YtjfponhdlfhmbaaOpsW
namespace Go.Proofs.Ytjfponhdlfhmbaa.Deep
open Go.RowKit Mem Cells Avps Avp Ops
set_option linter.unusedVariables false
set_option linter.unusedSimpArgs false

/-! Plain. -/
def nestA (code c1 : Int) (data : List Int) : Nat → A
  | 0 => ⟨c1, 0, false, false, data⟩
  | j + 1 => ⟨code, 0, false, false, encAll 0 0 [nestA code c1 data j]⟩
def itsF (code c1 : Int) (data : List Int) (d : Int) : Nat → List (Int × A)
  | 0 => [(d, nestA code c1 data 0)]
  | j + 1 => (d, nestA code c1 data (j + 1)) :: itsF code c1 data (d + 1) j
theorem enc_one (a : A) : encAll 0 0 [a] = encG 0 0 a := by simp [encAll]
section
variable {code c1 : Int} {data : List Int}
structure OkN (code c1 : Int) (data : List Int) : Prop where
  hc : 0 ≤ code ∧ code ≤ 4294967295
  hc1 : 0 ≤ c1 ∧ c1 ≤ 4294967295
  ne : c1 ≠ code
  hd : ∀ x ∈ data, 0 ≤ x ∧ x ≤ 255
  len : data.length ≤ 100
theorem nest_ok (h : OkN code c1 data) : ∀ j, (nestA code c1 data j).ok
  | 0 => ⟨h.hc1, ⟨Int.le_refl _, by show (0 : Int) ≤ 4294967295; decide⟩, h.hd⟩
  | j + 1 => ⟨h.hc, ⟨Int.le_refl _, by show (0 : Int) ≤ 4294967295; decide⟩, encAll_wf _ (fun a ha => by rw [List.mem_singleton] at ha; subst ha; exact nest_ok h j) 0 0 (by decide) (by decide)⟩
theorem nest_vendor (j : Nat) : (nestA code c1 data j).vendor = 0 := by cases j <;> rfl
theorem enc_len (j : Nat) : ((encAll 0 0 [nestA code c1 data j]).length : Int) ≤ (nestA code c1 data j).data.length + 11 := by
  rw [enc_one]
  have h1 := encG_length 0 0 (nestA code c1 data j)
  have h2 := padN_bd (nestA code c1 data j).data.length
  have h3 : venB (nestA code c1 data j) = false := by unfold venB; rw [nest_vendor]; rfl
  rw [h3] at h1
  have h4 : headN false = 8 := rfl
  omega
theorem nest_len (h : OkN code c1 data) : ∀ j : Nat, ((nestA code c1 data j).data.length : Int) ≤ 100 + 11 * (j : Int)
  | 0 => by have := h.len; show ((data.length : Nat) : Int) ≤ _; omega
  | j + 1 => by
    have h1 := nest_len h j
    have h2 := enc_len (code := code) (c1 := c1) (data := data) j
    show (((encAll 0 0 [nestA code c1 data j]).length : Nat) : Int) ≤ _
    omega
theorem nest_put (h : OkN code c1 data) {j : Nat} (hj : j ≤ 20) : putOf [nestA code c1 data j] = (encAll 0 0 [nestA code c1 data j], 0) := by
  unfold putOf
  rw [if_neg]
  have h1 := nest_len h j
  have h2 := enc_len (code := code) (c1 := c1) (data := data) j
  simp only [List.length_singleton, not_or]
  exact ⟨by omega, by omega⟩
theorem nest_get (h : OkN code c1 data) {j : Nat} (hj : j ≤ 20) : getOf (encAll 0 0 [nestA code c1 data j]) = ([nestA code c1 data j], 0, 0) := by
  have h1 := nest_len h j
  have h2 := enc_len (code := code) (c1 := c1) (data := data) j
  exact get_put 0 0 (by decide) _ (fun a ha => by rw [List.mem_singleton] at ha; subst ha; exact ⟨nest_ok h j, by omega⟩) (by simp) (by omega)
theorem its_length : ∀ (j : Nat) (d : Int), (itsF code c1 data d j).length = j + 1
  | 0, d => rfl
  | j + 1, d => by simp [itsF, its_length j]
theorem its_get : ∀ (j : Nat) (d : Int) (i : Nat), i ≤ j → (itsF code c1 data d j)[i]? = some (d + (i : Int), nestA code c1 data (j - i))
  | 0, d, i, hi => by
    have : i = 0 := by omega
    subst this
    simp [itsF]
  | j + 1, d, 0, hi => by simp [itsF]
  | j + 1, d, i + 1, hi => by
    simp only [itsF, List.getElem?_cons_succ]
    rw [its_get j (d + 1) i (by omega), show j + 1 - (i + 1) = j - i by omega]
    congr 2
    omega
theorem nest_code (j : Nat) : (nestA code c1 data j).code = if j = 0 then c1 else code := by cases j <;> simp [nestA]
end

/-! Items in memory. -/
def rowI (x : Int × A) (d : Value) : List Value := .int .i64 x.1 :: row x.2 d
def flatI (zs : List ((Int × A) × Value)) : List Value := zs.flatMap fun z => rowI z.1 z.2
theorem flatI_append (xs ys : List ((Int × A) × Value)) : flatI (xs ++ ys) = flatI xs ++ flatI ys := by simp [flatI]
theorem flatI_one (z : (Int × A) × Value) : flatI [z] = rowI z.1 z.2 := by simp [flatI]
theorem flatI_length (zs : List ((Int × A) × Value)) : (flatI zs).length = zs.length * 6 := by
  induction zs with
  | nil => rfl
  | cons z zs ih =>
    have e : flatI (z :: zs) = rowI z.1 z.2 ++ flatI zs := rfl
    rw [e, List.length_append, ih, List.length_cons]
    simp [rowI, row]; omega
theorem flatI_get (zs : List ((Int × A) × Value)) (i : Nat) (z : (Int × A) × Value) (h : zs[i]? = some z) (j : Nat) (hj : j < 6) : (flatI zs)[i * 6 + j]? = (rowI z.1 z.2)[j]? := by
  induction zs generalizing i with
  | nil => simp at h
  | cons y zs ih =>
    have e : flatI (y :: zs) = rowI y.1 y.2 ++ flatI zs := rfl
    have hl : (rowI y.1 y.2).length = 6 := rfl
    rw [e]
    cases i with
    | zero =>
      simp at h
      subst h
      rw [List.getElem?_append_left (by rw [hl]; omega)]
      simp
    | succ i =>
      rw [List.getElem?_append_right (by rw [hl]; omega), hl, show (i + 1) * 6 + j - 6 = i * 6 + j from by omega]
      exact ih i (by simpa using h)
/-- The bytes lie in another block than the slice v. -/
def ApartI (v : Value) (xs : List Int) (d : Value) : Prop := 0 < xs.length → ∀ q, v.ownBlock = some q → d.ownBlock ≠ some q
def OwnI (B : Nat) (w : World) (v : Value) (al : List (Int × A)) : Prop :=
  ∃ zs : List ((Int × A) × Value), zs.map Prod.fst = al ∧ w.ownsRow B 46 6 v al.length (flatI zs) ∧ ∀ z ∈ zs, Reads .u8 w z.2 z.1.2.data ∧ ApartI v z.1.2.data z.2
section
variable {w w' : World} {B : Nat} {v : Value} {al : List (Int × A)}
theorem OwnI.nil (B : Nat) (w : World) : OwnI B w (.slice none 0 0) [] := ⟨[], rfl, World.ownsRow_nil _ _ _ _, fun z hz => (by cases hz)⟩
theorem grown_of_below (hb : Below w.heap.size w w') : w.grownBy w' none := ⟨hb.os, hb.tape, hb.output, hb.size, fun i hi _ => hb.block i hi⟩
theorem OwnI.below (h : OwnI B w v al) (hb : Below w.heap.size w w') : OwnI B w' v al := by
  obtain ⟨zs, h1, h2, h3⟩ := h
  exact ⟨zs, h1, h2.kept (grown_of_below hb) (by cases v.ownBlock <;> simp), fun z hz => ⟨(h3 z hz).1.below hb, (h3 z hz).2⟩⟩
theorem OwnI.lt (h : OwnI B w v al) (q : Nat) (hq : v.ownBlock = some q) : B ≤ q ∧ q < w.heap.size := by
  obtain ⟨zs, h1, h2, h3⟩ := h
  exact h2.lt q hq
theorem OwnI.shape (h : OwnI B w v al) : ∃ p c, v = .slice p al.length c ∧ al.length ≤ c ∧ c ≤ maxLen := by
  obtain ⟨zs, _, ⟨_, ⟨rfl, hn⟩ | ⟨q, cap, cur, rfl, hb, hg, hle, hm, _⟩⟩, _⟩ := h
  · rw [hn]; exact ⟨none, 0, rfl, by omega, by simp⟩
  · exact ⟨_, cap, rfl, hle, hm⟩
theorem OwnI.block (h : OwnI B w v al) (h0 : 0 < al.length) : ∃ q c, v = .slice (some ⟨q, 0, none⟩) al.length c ∧ al.length ≤ c ∧ c ≤ maxLen ∧ q < w.heap.size := by
  obtain ⟨zs, _, h2, _⟩ := h
  have hlt := h2.lt
  obtain ⟨_, ⟨rfl, hn⟩ | ⟨q, cap, cur, rfl, hb, hg, hle, hm, _⟩⟩ := h2
  · omega
  · exact ⟨q, cap, rfl, hle, hm, (hlt q rfl).2⟩
theorem OwnI.elem {q c n : Nat} (h : OwnI B w (.slice (some ⟨q, 0, none⟩) n c) al) (i : Nat) (a : Int × A) (hi : al[i]? = some a) :
    ∃ p m, w.rangeAt q (i * 6) (rowI a (.slice p a.2.data.length m)) ∧ Reads .u8 w (.slice p a.2.data.length m) a.2.data := by
  obtain ⟨zs, h1, h3, h4⟩ := h
  have hzl : zs.length = al.length := by rw [← h1, List.length_map]
  have hil : i < al.length := (List.getElem?_eq_some_iff.1 hi).1
  have hz : zs[i]? = some zs[i] := List.getElem?_eq_getElem (by omega)
  have ha : zs[i].1 = a := by
    have : al[i] = a := (List.getElem?_eq_some_iff.1 hi).2
    rw [← this]
    simp [← h1]
  have hr := (h4 zs[i] (List.getElem_mem _)).1
  rw [ha] at hr
  obtain ⟨p, m, e, _⟩ := id hr
  refine ⟨p, m, fun j u hj => ?_, e ▸ hr⟩
  rw [← e, ← ha] at hj
  have hj7 : j < 6 := (List.getElem?_eq_some_iff.1 hj).1
  have hc := h3.cells (g := q) rfl (i * 6 + j) u (by rw [flatI_get zs i zs[i] hz j hj7]; exact hj)
  rw [add_none, Nat.zero_add] at hc
  exact hc
/-- Bytes do not lie in a block that holds no bytes. -/
theorem reads_ne_at {d : Value} {xs : List Int} (h : Reads .u8 w d xs) (h0 : 0 < xs.length) {g T : Nat} {cs : Array Value} (hat : At w g T cs) (hcs : ∀ c ∈ cs.toList, ∀ n, c ≠ .int .u8 n) : d.ownBlock ≠ some g := by
  obtain ⟨p, c, rfl, h1, h2, h3, h4⟩ := h
  obtain ⟨b, off, rfl, hlt, hc⟩ := h4 h0
  intro e
  have e2 : b = g := by simpa [Value.ownBlock] using e
  subst e2
  have h5 := hc 0 h0
  rw [hat.cell] at h5
  have h6 : (Value.int .u8 (xs.getD 0 0)) ∈ cs.toList := Array.mem_toList_iff.2 (Array.mem_of_getElem? h5)
  exact hcs _ h6 _ rfl
theorem OwnI.other (h : OwnI B w v al) {g T : Nat} {cs : Array Value} (hg : w.grownBy w' (some g)) (hat : At w g T cs) (hT : T ≠ 46) (hcs : ∀ c ∈ cs.toList, ∀ n, c ≠ .int .u8 n) : OwnI B w' v al := by
  obtain ⟨zs, h1, h2, h3⟩ := h
  refine ⟨zs, h1, h2.kept hg (.inr (fun e => ?_)), fun z hz => ⟨reads_grown (h3 z hz).1 hg (fun h0 q hq e => ?_), (h3 z hz).2⟩⟩
  · rcases h2.2 with ⟨rfl, _⟩ | ⟨g', cap, cur, rfl, _, hgg, _⟩
    · cases e
    · cases e
      have hh : w.heap[g']? = some (.cells cs T (0, 0)) := hat
      rw [hgg] at hh
      simp at hh
      exact hT hh.2.symm
  · cases hq
    exact reads_ne_at (h3 z hz).1 h0 hat hcs e
theorem info46 : (Try.prog.info? 46).map (fun i => (i.zero, i.size, i.bytes)) = some (some (.agg #[.int .i64 0, .int .u32 0, .int .u32 0, .bool false, .bool false, .slice none 0 0]), 6, 48) := by kernel_rfl
theorem build42 (x : Int × A) (d : Value) (w : World) : (Instr.buildSlice 42 1 #[(0, .agg (rowI x d).toArray)]).run Try.prog w = .ok (.slice (some ⟨w.heap.size, 0, none⟩) 1 1) (w.alloc (.cells (rowI x d).toArray 46)) := by
  kernel_rfl
theorem run_pushI (h : OwnI B w v al) (x : Int × A) (d : Value) {q m : Nat} (hat : At w q 46 (rowI x d).toArray) (hd : Reads .u8 w d x.2.data) (hap : ApartI v x.2.data d) (hB : B ≤ w.heap.size) (hn : al.length ≤ 99999) :
    ∃ v' w', (Builtin.append_ #[42, 42] 42 #[v, .slice (some ⟨q, 0, none⟩) 1 m]).run Try.prog w = .ok v' w' ∧ OwnI B w' v' (al ++ [x]) ∧ w.grownBy w' v.ownBlock := by
  have hi : ∃ i, Try.prog.info? 46 = some i ∧ i.zero = some (.agg #[.int .i64 0, .int .u32 0, .int .u32 0, .bool false, .bool false, .slice none 0 0]) ∧ i.size = 6 ∧ i.bytes = 48 := by
    have h := info46
    cases hi : Try.prog.info? 46 with
    | none => rw [hi] at h; cases h
    | some i =>
      rw [hi] at h
      simp only [Option.map_some, Option.some.injEq, Prod.mk.injEq] at h
      exact ⟨i, rfl, h.1, h.2.1, h.2.2⟩
  obtain ⟨i, hi, hz0, hz1, hz2⟩ := hi
  obtain ⟨ys, e1, e2, e3⟩ := h
  have hone : ∀ u ∈ flatI [(x, d)], u.oneCell' = true := by
    intro u hu
    rw [flatI_one] at hu
    rcases List.mem_cons.1 hu with rfl | hu
    · rfl
    · exact row_one (reads_one hd) u hu
  have hnews : ∀ j u, (flatI [(x, d)])[j]? = some u → w.cell? ((⟨q, 0, none⟩ : Addr).add j) = some u := fun j u hj => by rw [add_none, Nat.zero_add, hat.cell j, ← hj, flatI_one]; simp
  obtain ⟨v', w', hr, k2, k3, k4⟩ := run_append_own (P := Try.prog) w B 42 42 46 i _ 6 48 Try.underlying42 hi hz0 hz1 hz2 rfl (by omega) v al.length (flatI ys) e2 ⟨q, 0, none⟩ 1 m (flatI [(x, d)]) rfl hnews hone (by simp [maxLen]; omega) (by omega) hB
  have hblk := append_block (P := Try.prog) Try.underlying42 hi hz0 hz1 hz2 rfl (by omega) e2 (m := 1) (c := m) rfl hnews hone (by simp [maxLen]; omega) (by omega) hr
  refine ⟨v', w', hr, ⟨ys ++ [(x, d)], by rw [List.map_append, e1]; rfl, ?_, ?_⟩, k3⟩
  · rw [flatI_append, List.length_append]
    exact k2
  · have key : ∀ z : (Int × A) × Value, Reads .u8 w z.2 z.1.2.data → ApartI v z.1.2.data z.2 → Reads .u8 w' z.2 z.1.2.data ∧ ApartI v' z.1.2.data z.2 := by
      intro z hz hap
      refine ⟨reads_grown hz k3 hap, fun h0 q hq => ?_⟩
      rcases hblk with hb | hb
      · exact hap h0 q (by rw [← hb]; exact hq)
      · obtain ⟨b, hb1, hb2⟩ := reads_lt hz h0
        rw [hb] at hq
        cases hq
        rw [hb1]
        intro e
        cases e
        exact absurd hb2 (Nat.lt_irrefl _)
    intro z hz
    rcases List.mem_append.1 hz with hz | hz
    · exact key z (e3 z hz).1 (e3 z hz).2
    · rw [List.mem_singleton] at hz
      subst hz
      exact key _ hd hap
end

/-! What Get answers of one attribute. -/
theorem ownD_one {D B : Nat} {w : World} {v : Value} {a : A} (h : OwnD D 41 B w v [a]) : ∃ q c p m, v = .slice (some ⟨q, 0, none⟩) 1 c ∧ 1 ≤ c ∧ q < w.heap.size ∧ w.rangeAt q 0 (row a (.slice p a.data.length m)) ∧ Reads .u8 w (.slice p a.data.length m) a.data ∧ (0 < a.data.length → ∀ k, (Value.slice p a.data.length m).ownBlock = some k → D ≤ k) := by
  obtain ⟨zs, h1, h2, h3, h4⟩ := h
  match zs, h1 with
  | [z], h1 =>
    simp only [List.map_cons, List.map_nil, List.cons.injEq, and_true] at h1
    obtain ⟨b, d⟩ := z
    simp only at h1
    subst h1
    have hm : (b, d) ∈ [(b, d)] := List.mem_cons_self
    obtain ⟨p, m, e, _⟩ := id (h2 _ hm).1
    simp only at e
    subst e
    have hcells := fun g hg => h3.cells (g := g) hg
    have hlt := h3.lt
    obtain ⟨_, ⟨_, hn⟩ | ⟨g, cap, cur, rfl, hb, hg, hle, hm2, _⟩⟩ := h3
    · simp at hn
    · refine ⟨g, cap, p, m, rfl, hle, (hlt g rfl).2, fun j u hj => ?_, (h2 _ hm).1, h4 _ hm⟩
      have := hcells g rfl j u (by rw [flat_one]; exact hj)
      rw [add_none] at this
      rw [Nat.zero_add] at this ⊢
      exact this
/-! The region that appends. -/
section
variable {P : Program} {w : World} {o : Oper} {a : Act} {K : Act → World → Prop} {Q : Exit → Act → World → Prop}
theorem wp_storeC (ty : TypeId) (x y : Operand) (ho : o.op = .store ty x y) (hd : o.dst = none) (g j : Nat) (T : TypeId) (cs ds : Array Value) (v : Value)
    (hx : a.eval x = .pointer (some ⟨g, j, none⟩)) (hy : a.eval y = v) (hat : At w g T cs) (hj : j < cs.size) (hi : (P.info? ty).map (·.size) = some 1) (h1 : v.oneCell' = true) (e : cs.set! j v = ds)
    (h : ∀ w', At w' g T ds → w.grownBy w' (some g) → K a w') : o.wp P a w K Q := by
  have hc := hat.cell j
  rw [Array.getElem?_eq_getElem hj] at hc
  have hf := hat.free j
  have hrun : (storeVar ty ⟨g, j, none⟩ v).run P w = .ok () (w.setCell ⟨g, j, none⟩ v) := by
    cases hq : P.info? ty with
    | none => simp [hq] at hi
    | some i =>
      have hs : i.size = 1 := by simpa [hq] using hi
      have ha : (⟨g, j, none⟩ : Addr).add 0 = ⟨g, j, none⟩ := by unfold Addr.add; split <;> simp_all
      simp [storeVar, sizeOf, typeInfo, hq, cells_one h1, hs, storeCells, ha, run_store P w _ v _ h1, hc, hf]
  unfold Oper.wp execOp
  simp only [ho, hx, hy, Instr.storeAt, Instr.sureAddr, Sem.run_bind, Sem.run_pure, Result.andThen_ok, hrun]
  have := h _ (hat.set e) (grown_setCell (grown_refl w _))
  have e0 : a.put o.dst undef = a := by rw [hd]; rfl
  show K (a.put o.dst undef) _
  rw [e0]
  exact this
theorem wp_appendV (t : TypeId) (s x : Operand) (ho : o.op = .call { callee := .builtin .append, args := #[s, x], argTypes := #[t, t] }) (vs vx r : Value) (w' : World) (hs : a.eval s = vs) (hx : a.eval x = vx)
    (hrun : (Builtin.append_ #[t, t] o.type #[vs, vx]).run P w = .ok r w') (h : K (a.put o.dst r) w') : o.wp P a w K Q := by
  unfold Oper.wp execOp
  simp only [ho, resolve, invoke, builtin, Sem.run_bind, Sem.run_pure, Result.andThen_ok, List.map_toArray, List.map_cons, List.map_nil, hs, hx, hrun]
  exact h
end
structure MidI (w0 : World) (B g : Nat) (gv lv : Value) (its : List (Int × A)) (v : Value) (x : World) : Prop where
  grown : w0.grownBy x lv.ownBlock
  row : At x g 63 #[gv, lv]
  list : OwnI B x v its
  one : v.oneCell' = true
def FinI (w0 : World) (B g : Nat) (gv lv : Value) (its : List (Int × A)) (v : Value) (x : World) : Prop := ∃ y, MidI w0 B g gv lv its v y ∧ y.grownBy x (some g) ∧ At x g 63 #[gv, v]
def oneI (x : Int × A) (d : Value) : Mono.Prp := ⟨fun v u => ∃ q, v = .slice (some ⟨q, 0, none⟩) 1 1 ∧ At u q 46 (rowI x d).toArray, fun _ _ _ ⟨q, e, h⟩ hb => ⟨q, e, h.ext hb⟩⟩
theorem at_kept {w w' : World} {g T : Nat} {cs : Array Value} {r : Option Nat} (h : At w g T cs) (hg : w.grownBy w' r) (hne : r ≠ some g) : At w' g T cs := by
  unfold At; rw [hg.block g h.lt (fun e => hne e.symm)]; exact h
theorem own_ne_at {w : World} {B k n : Nat} {v : Value} {xs : List Value} (h : w.ownsRow B 46 k v n xs) {g T : Nat} {cs : Array Value} (hat : At w g T cs) (hT : T ≠ 46) : v.ownBlock ≠ some g := by
  intro e
  rcases h.2 with ⟨rfl, _⟩ | ⟨g', cap, cur, rfl, _, hgg, _⟩
  · cases e
  · cases e
    have hh : w.heap[g']? = some (.cells cs T (0, 0)) := hat
    rw [hgg] at hh
    simp at hh
    exact hT hh.2.symm
section
variable {w0 w x : World} {B g : Nat} {gv lv v : Value} {its its' : List (Int × A)}
theorem midI (hI : OwnI B w0 lv its) (hA : At w0 g 63 #[gv, lv]) (hb : Below w0.heap.size w0 w) {y : Int × A} {d : Value} {q : Nat} (hat : At w q 46 (rowI y d).toArray) (hd : Reads .u8 w0 d y.2.data) (hap : ApartI lv y.2.data d) (hB : B ≤ w0.heap.size) (hn : its.length ≤ 99999) :
    ∃ v x, (Builtin.append_ #[42, 42] 42 #[lv, .slice (some ⟨q, 0, none⟩) 1 1]).run Try.prog w = .ok v x ∧ MidI w0 B g gv lv (its ++ [y]) v x := by
  obtain ⟨v, x, hr, h1, h2⟩ := run_pushI (m := 1) (hI.below hb) y d hat (hd.below hb) hap (Nat.le_trans hB hb.size) hn
  have hA' := hA.ext hb
  obtain ⟨zs, e1, e2, e3⟩ := hI.below hb
  refine ⟨v, x, hr, grown_trans (grown_below _ hb) h2, at_kept hA' h2 (own_ne_at e2 hA' (by decide)), h1, ?_⟩
  obtain ⟨p, c, e, _⟩ := h1.shape
  rw [e]; rfl
theorem slices_only {a b : Value} (ha : ∃ p n c, a = .slice p n c) (hb : ∃ p n c, b = .slice p n c) : ∀ c ∈ (#[a, b] : Array Value).toList, ∀ n, c ≠ .int .u8 n := by
  obtain ⟨p, n, c, rfl⟩ := ha
  obtain ⟨p', n', c', rfl⟩ := hb
  intro c hc n
  simp only [List.mem_cons, List.not_mem_nil, or_false] at hc
  rcases hc with rfl | rfl <;> (intro h; cases h)
/-- What is known behind the region. -/
theorem FinI.done (hf : FinI w0 B g gv lv its' v x) (hI : OwnI B w0 lv its) (hg : ∃ p n c, gv = .slice p n c) (hB : B ≤ w0.heap.size) (hBg : B ≤ g) :
    At x g 63 #[gv, v] ∧ OwnI B x v its' ∧ Below B w0 x ∧ (∀ d xs, Reads .u8 w0 d xs → ApartI lv xs d → Reads .u8 x d xs) ∧ (∀ h T cs, At w0 h T cs → T ≠ 46 → T ≠ 63 → At x h T cs) ∧ w0.heap.size ≤ x.heap.size := by
  obtain ⟨y, hm, hg2, hat⟩ := hf
  have hlv : ∃ p n c, lv = .slice p n c := by obtain ⟨p, c, e, _⟩ := hI.shape; exact ⟨p, _, c, e⟩
  have hso := slices_only hg hlv
  refine ⟨hat, hm.list.other hg2 hm.row (by decide) hso, ?_, fun d xs hd hap => ?_, fun h T cs hh h1 h2 => ?_, Nat.le_trans hm.grown.size hg2.size⟩
  · have h1 : Below B w0 y := (Below.refl B w0).grown hm.grown hB (fun q e => (hI.lt q e).1)
    exact h1.grown hg2 (Nat.le_trans hB hm.grown.size) (fun q e => by cases e; exact hBg)
  · have h1 : Reads .u8 y d xs := reads_grown hd hm.grown (fun h0 q hq => hap h0 q hq)
    exact reads_grown h1 hg2 (fun h0 q hq => by cases hq; exact reads_ne_at h1 h0 hm.row hso)
  · obtain ⟨zs, e1, e2, e3⟩ := hI
    have h3 := at_kept hh hm.grown (own_ne_at e2 hh h1)
    refine at_kept h3 hg2 (fun e => ?_)
    have a1 : y.heap[h]? = some (.cells cs T (0, 0)) := h3
    have a2 : y.heap[h]? = some (.cells #[gv, lv] 63 (0, 0)) := by rw [← Option.some.inj e]; exact hm.row
    rw [a1] at a2
    simp at a2
    exact h2 a2.2
end
end Go.Proofs.Ytjfponhdlfhmbaa.Deep
