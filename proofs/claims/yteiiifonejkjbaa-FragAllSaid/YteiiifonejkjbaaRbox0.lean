/-
  The reference's box in memory (RB); which blocks its calls may turn (RX); parts of lists. No walk.
-/
import Derived.Test.YteiiifonejkjbaaLost
import Derived.Test.YteiiifonejkjbaaCuts
namespace Go.Proofs.Yteiiifonejkjbaa.Rb
open Go.RowKit Mem Cells Ops Pcs Go.Maps Go.Proofs.Yteiiifonejkjbaa.Open Go.Proofs.Yteiiifonejkjbaa.Bx
set_option linter.unusedVariables false
set_option linter.unusedSimpArgs false

section
variable {w w' : World} {X : Nat → Prop}
theorem own_but {B e k n : Nat} {v : Value} {us : List Value} (h : w.ownsRow B e k v n us) (hb : ButX X w w') (hx : ∀ q, v.ownBlock = some q → ¬ X q) : w'.ownsRow B e k v n us := by
  refine ⟨h.1, ?_⟩
  rcases h.2 with hn | ⟨q, cap, cur, rfl, hbb, hgg, rest⟩
  · exact .inl hn
  · refine .inr ⟨q, cap, cur, rfl, hbb, ?_, rest⟩
    rw [hb.block q (Array.getElem?_eq_some_iff.1 hgg).1 (hx q rfl)]
    exact hgg

/-! Lists of messages that wait. -/
def rowT (y : T) (d : Value) : List Value := [.int .u16 y.s, .int .u16 y.q, d]
def flatT (zs : List (T × Value)) : List Value := zs.flatMap fun z => rowT z.1 z.2
theorem flatT_append (xs ys : List (T × Value)) : flatT (xs ++ ys) = flatT xs ++ flatT ys := by simp [flatT]
theorem flatT_one (z : T × Value) : flatT [z] = rowT z.1 z.2 := by simp [flatT]
theorem flatT_cons (z : T × Value) (zs : List (T × Value)) : flatT (z :: zs) = rowT z.1 z.2 ++ flatT zs := rfl
theorem flatT_length (zs : List (T × Value)) : (flatT zs).length = zs.length * 3 := by
  induction zs with
  | nil => rfl
  | cons z zs ih =>
    rw [flatT_cons, List.length_append, ih, List.length_cons]
    simp [rowT]; omega
theorem flatT_get (zs : List (T × Value)) (i : Nat) (z : T × Value) (h : zs[i]? = some z) (j : Nat) (hj : j < 3) : (flatT zs)[i * 3 + j]? = (rowT z.1 z.2)[j]? := by
  induction zs generalizing i with
  | nil => simp at h
  | cons y zs ih =>
    have hl : (rowT y.1 y.2).length = 3 := rfl
    rw [flatT_cons]
    cases i with
    | zero =>
      simp at h
      subst h
      rw [List.getElem?_append_left (by rw [hl]; omega)]
      simp
    | succ i =>
      rw [List.getElem?_append_right (by rw [hl]; omega), hl, show (i + 1) * 3 + j - 3 = i * 3 + j from by omega]
      exact ih i (by simpa using h)
theorem flatT_take (zs : List (T × Value)) (k : Nat) : flatT (zs.take k) = (flatT zs).take (k * 3) := by
  induction zs generalizing k with
  | nil => simp [flatT]
  | cons z zs ih =>
    cases k with
    | zero => simp [flatT]
    | succ k =>
      have hl : (rowT z.1 z.2).length = 3 := rfl
      rw [List.take_succ_cons, flatT_cons, flatT_cons, ih, List.take_append, hl, show (k + 1) * 3 - 3 = k * 3 from by omega, List.take_of_length_le (l := rowT z.1 z.2) (by rw [hl]; omega)]
theorem flatT_drop (zs : List (T × Value)) (k : Nat) : flatT (zs.drop k) = (flatT zs).drop (k * 3) := by
  induction zs generalizing k with
  | nil => simp [flatT]
  | cons z zs ih =>
    cases k with
    | zero => simp [flatT]
    | succ k =>
      have hl : (rowT z.1 z.2).length = 3 := rfl
      rw [List.drop_succ_cons, flatT_cons, ih, List.drop_append, hl, show (k + 1) * 3 - 3 = k * 3 from by omega, show (rowT z.1 z.2).drop ((k + 1) * 3) = [] from List.drop_eq_nil_of_le (by rw [hl]; omega), List.nil_append]
theorem flat_cons (z : A × Value) (zs : List (A × Value)) : flat (z :: zs) = row z.1 z.2 ++ flat zs := rfl
theorem flat_take (zs : List (A × Value)) (k : Nat) : flat (zs.take k) = (flat zs).take (k * 7) := by
  induction zs generalizing k with
  | nil => simp [flat]
  | cons z zs ih =>
    cases k with
    | zero => simp [flat]
    | succ k =>
      have hl : (row z.1 z.2).length = 7 := rfl
      rw [List.take_succ_cons, flat_cons, flat_cons, ih, List.take_append, hl, show (k + 1) * 7 - 7 = k * 7 from by omega, List.take_of_length_le (l := row z.1 z.2) (by rw [hl]; omega)]
theorem flat_drop (zs : List (A × Value)) (k : Nat) : flat (zs.drop k) = (flat zs).drop (k * 7) := by
  induction zs generalizing k with
  | nil => simp [flat]
  | cons z zs ih =>
    cases k with
    | zero => simp [flat]
    | succ k =>
      have hl : (row z.1 z.2).length = 7 := rfl
      rw [List.drop_succ_cons, flat_cons, ih, List.drop_append, hl, show (k + 1) * 7 - 7 = k * 7 from by omega, show (row z.1 z.2).drop ((k + 1) * 7) = [] from List.drop_eq_nil_of_le (by rw [hl]; omega), List.nil_append]
def OwnT (B : Nat) (w : World) (v : Value) (al : List T) : Prop := ∃ zs : List (T × Value), zs.map Prod.fst = al ∧ w.ownsRow B 85 3 v al.length (flatT zs) ∧ ∀ z ∈ zs, Row .u8 5 B w z.2 z.1.data
theorem OwnT.nil (B : Nat) (w : World) : OwnT B w (.slice none 0 0) [] := ⟨[], rfl, World.ownsRow_nil _ _ _ _, fun z hz => (by cases hz)⟩
theorem OwnT.kept {B : Nat} {v : Value} {al : List T} {r : Option Nat} (h : OwnT B w v al) (hg : w.grownBy w' r) (hr : ∀ q, r = some q → ∀ T cs, (T = 85 ∨ T = 5) → B ≤ q → ¬ At w q T cs) : OwnT B w' v al := by
  obtain ⟨zs, h1, h2, h3⟩ := h
  refine ⟨zs, h1, h2.kept hg ?_, fun z hz => (h3 z hz).kept hg ?_⟩
  · cases hv : v.ownBlock with
    | none => exact .inl rfl
    | some g =>
      obtain ⟨cur, hc⟩ := own_at h2 hv
      exact .inr (fun e => hr g e.symm 85 cur (.inl rfl) (h2.lt g hv).1 hc)
  · cases hv : z.2.ownBlock with
    | none => exact .inl rfl
    | some g =>
      obtain ⟨cur, hc⟩ := own_at (h3 z hz) hv
      exact .inr (fun e => hr g e.symm 5 cur (.inr rfl) ((h3 z hz).lt g hv).1 hc)
theorem OwnT.below {B : Nat} {v : Value} {al : List T} (h : OwnT B w v al) (hb : Below w.heap.size w w') : OwnT B w' v al := h.kept (grown_below none hb) (fun q e => by cases e)
theorem OwnT.other {B g T0 : Nat} {v : Value} {al : List T} {cs : Array Value} (h : OwnT B w v al) (hg : w.grownBy w' (some g)) (hat : At w g T0 cs) (h1 : T0 ≠ 85) (h2 : T0 ≠ 5) : OwnT B w' v al :=
  h.kept hg (fun q e T' cs' hT _ hq => by cases e; exact at_ne hq hat (by rcases hT with rfl | rfl; exact fun e => h1 e.symm; exact fun e => h2 e.symm) rfl)
theorem _root_.Go.Proofs.Yteiiifonejkjbaa.Pcs.OwnQ.other {B g T0 : Nat} {v : Value} {al : List A} {cs : Array Value} (h : OwnQ B w v al) (hg : w.grownBy w' (some g)) (hat : At w g T0 cs) (h1 : T0 ≠ 45) (h2 : T0 ≠ 5) : OwnQ B w' v al :=
  h.kept hg (fun q e T' cs' hT _ hq => by cases e; exact at_ne hq hat (by rcases hT with rfl | rfl; exact fun e => h1 e.symm; exact fun e => h2 e.symm) rfl)
theorem OwnT.shape {B : Nat} {v : Value} {al : List T} (h : OwnT B w v al) : ∃ p c, v = .slice p al.length c ∧ al.length ≤ c ∧ c ≤ maxLen := by
  obtain ⟨zs, _, ⟨_, ⟨rfl, hn⟩ | ⟨q, cap, cur, rfl, hb, hg, hle, hm, _⟩⟩, _⟩ := h
  · rw [hn]; exact ⟨none, 0, rfl, by omega, by simp⟩
  · exact ⟨_, cap, rfl, hle, hm⟩
theorem OwnT.block {B : Nat} {v : Value} {al : List T} (h : OwnT B w v al) (h0 : 0 < al.length) : ∃ q c, v = .slice (some ⟨q, 0, none⟩) al.length c ∧ al.length ≤ c ∧ c ≤ maxLen ∧ B ≤ q ∧ q < w.heap.size := by
  obtain ⟨zs, _, h2, _⟩ := h
  have hlt := fun q hq => h2.lt q hq
  obtain ⟨_, ⟨rfl, hn⟩ | ⟨q, cap, cur, rfl, hb, hg, hle, hm, _⟩⟩ := h2
  · omega
  · exact ⟨q, cap, rfl, hle, hm, hb, (hlt q rfl).2⟩
theorem OwnT.elem {B q c n : Nat} {al : List T} (h : OwnT B w (.slice (some ⟨q, 0, none⟩) n c) al) (i : Nat) (a : T) (hi : al[i]? = some a) :
    ∃ p m, w.rangeAt q (i * 3) (rowT a (.slice p a.data.length m)) ∧ Row .u8 5 B w (.slice p a.data.length m) a.data := by
  obtain ⟨zs, h1, h3, h4⟩ := h
  have hzl : zs.length = al.length := by rw [← h1, List.length_map]
  have hil : i < al.length := (List.getElem?_eq_some_iff.1 hi).1
  have hz : zs[i]? = some zs[i] := List.getElem?_eq_getElem (by omega)
  have ha : zs[i].1 = a := by
    have : al[i] = a := (List.getElem?_eq_some_iff.1 hi).2
    rw [← this]
    simp [← h1]
  have hr := h4 zs[i] (List.getElem_mem _)
  rw [ha] at hr
  obtain ⟨p, m, e, _⟩ := hr.reads
  refine ⟨p, m, fun j u hj => ?_, e ▸ hr⟩
  rw [← e, ← ha] at hj
  have hj7 : j < 3 := (List.getElem?_eq_some_iff.1 hj).1
  have hc := h3.cells (g := q) rfl (i * 3 + j) u (by rw [flatT_get zs i zs[i] hz j hj7]; exact hj)
  rw [add_none, Nat.zero_add] at hc
  exact hc

/-! Parts of a list. -/
theorem part_first {B e s g m c : Nat} {us : List Value} (h : w.ownsRow B e s (.slice (some ⟨g, 0, none⟩) m c) m us) (k : Nat) : ∀ j u, (us.take (k * s))[j]? = some u → w.cell? ((⟨g, 0, none⟩ : Addr).add j) = some u := by
  intro j u hj
  refine h.cells (g := g) rfl j u ?_
  rw [List.getElem?_take] at hj
  split at hj
  · exact hj
  · cases hj
theorem part_rest {B e s g m c : Nat} {us : List Value} (h : w.ownsRow B e s (.slice (some ⟨g, 0, none⟩) m c) m us) (k : Nat) (hk : k < m) (hu : us.length = m * s) :
    ∃ A : Addr, sliced (some ⟨g, 0, none⟩) (k + 1) m c s = .slice (some A) (m - (k + 1)) (c - (k + 1)) ∧ ∀ x, (∀ cs, At w g e cs → At x g e cs) → ∀ j v, (us.drop ((k + 1) * s))[j]? = some v → x.cell? (A.add j) = some v := by
  obtain ⟨_, ⟨hv, _⟩ | ⟨g', cap, cur, hv, _, hgg, h1, h2, h3, h4⟩⟩ := h
  · cases hv
  cases hv
  by_cases e : c = k + 1
  · refine ⟨⟨g, 0, none⟩, by unfold sliced; rw [if_pos e], fun x hx j v hj => ?_⟩
    have h0 : us.drop ((k + 1) * s) = [] := List.drop_eq_nil_of_le (by rw [hu]; exact Nat.mul_le_mul_right _ (by omega))
    rw [h0] at hj
    simp at hj
  · refine ⟨⟨g, (k + 1) * s, none⟩, by unfold sliced; rw [if_neg e]; simp [Addr.add]; intro h; exact h.symm, fun x hx j v hj => ?_⟩
    have hat : At x g _ cur := hx cur hgg
    have hj' := hj
    rw [List.getElem?_drop] at hj
    rw [add_none, hat.cell]
    have hlt := (List.getElem?_eq_some_iff.1 hj).1
    rw [← h4, List.getElem?_take_of_lt (by rw [hu] at hlt; exact hlt)] at hj
    simpa using hj
theorem run_appendQ {B m c : Nat} {v : Value} {al : List A} (h : OwnQ B w v al) (ad : Addr) (ys : List (A × Value)) (hm : ys.length = m) (hc : ∀ j u, (flat ys)[j]? = some u → w.cell? (ad.add j) = some u) (hd : ∀ z ∈ ys, Row .u8 5 B w z.2 z.1.data) (hB : B ≤ w.heap.size) (hn : al.length + m ≤ 100000) :
    ∃ v' w', (Builtin.append_ #[35, 35] 35 #[v, .slice (some ad) m c]).run Try.prog w = .ok v' w' ∧ OwnQ B w' v' (al ++ ys.map Prod.fst) ∧ w.grownBy w' v.ownBlock ∧ (v'.ownBlock = v.ownBlock ∨ v'.ownBlock = some w.heap.size) := by
  obtain ⟨i, hi, hz0, hz1, hz2⟩ := info_parts info45
  obtain ⟨zs, e1, e2, e3⟩ := h
  obtain ⟨v', w', hr, k2, k3, _, k5⟩ := run_append_own_at (P := Try.prog) w B 35 35 45 i _ 7 40 Try.underlying35 hi hz0 hz1 hz2 rfl (by omega) v al.length (flat zs) e2 ad m c (flat ys) (by rw [flat_length, hm]) hc
    (flat_one' (w := w) fun z hz => (hd z hz).reads) (by simp [maxLen]; omega) (by omega) hB
  refine ⟨v', w', hr, ⟨zs ++ ys, by rw [List.map_append, e1], ?_, fun z hz => ?_⟩, k3, k5⟩
  · rw [flat_append, List.length_append, List.length_map, hm]; exact k2
  · have key : ∀ z : A × Value, Row .u8 5 B w z.2 z.1.data → Row .u8 5 B w' z.2 z.1.data := fun z hz => hz.kept k3 (own_ne2 hz e2 (by decide))
    rcases List.mem_append.1 hz with hz | hz
    · exact key z (e3 z hz)
    · exact key z (hd z hz)
theorem info85 : (Try.prog.info? 85).map (fun i => (i.zero, i.size, i.bytes)) = some (some (.agg #[.int .u16 0, .int .u16 0, .slice none 0 0]), 3, 32) := by kernel_rfl
theorem flatT_one' {zs : List (T × Value)} (h : ∀ z ∈ zs, Reads .u8 w z.2 z.1.data) : ∀ u ∈ flatT zs, u.oneCell' = true := by
  intro u hu
  obtain ⟨z, hz, hu⟩ := List.mem_flatMap.1 hu
  simp only [rowT, List.mem_cons, List.not_mem_nil, or_false] at hu
  rcases hu with rfl | rfl | rfl
  · rfl
  · rfl
  · exact reads_one (h z hz)
theorem run_appendT {B m c : Nat} {v : Value} {al : List T} (h : OwnT B w v al) (ad : Addr) (ys : List (T × Value)) (hm : ys.length = m) (hc : ∀ j u, (flatT ys)[j]? = some u → w.cell? (ad.add j) = some u) (hd : ∀ z ∈ ys, Row .u8 5 B w z.2 z.1.data) (hB : B ≤ w.heap.size) (hn : al.length + m ≤ 1000000) :
    ∃ v' w', (Builtin.append_ #[54, 54] 54 #[v, .slice (some ad) m c]).run Try.prog w = .ok v' w' ∧ OwnT B w' v' (al ++ ys.map Prod.fst) ∧ w.grownBy w' v.ownBlock ∧ (v'.ownBlock = v.ownBlock ∨ v'.ownBlock = some w.heap.size) := by
  obtain ⟨i, hi, hz0, hz1, hz2⟩ := info_parts info85
  obtain ⟨zs, e1, e2, e3⟩ := h
  obtain ⟨v', w', hr, k2, k3, _, k5⟩ := run_append_own_at (P := Try.prog) w B 54 54 85 i _ 3 32 Try.underlying54 hi hz0 hz1 hz2 rfl (by omega) v al.length (flatT zs) e2 ad m c (flatT ys) (by rw [flatT_length, hm]) hc
    (flatT_one' (w := w) fun z hz => (hd z hz).reads) (by simp [maxLen]; omega) (by omega) hB
  refine ⟨v', w', hr, ⟨zs ++ ys, by rw [List.map_append, e1], ?_, fun z hz => ?_⟩, k3, k5⟩
  · rw [flatT_append, List.length_append, List.length_map, hm]; exact k2
  · have key : ∀ z : T × Value, Row .u8 5 B w z.2 z.1.data → Row .u8 5 B w' z.2 z.1.data := fun z hz => hz.kept k3 (own_ne2 hz e2 (by decide))
    rcases List.mem_append.1 hz with hz | hz
    · exact key z (e3 z hz)
    · exact key z (hd z hz)
end
theorem size35 : (sizeOf (Try.prog.elem 35)).run Try.prog = fun u => .ok 7 u := by kernel_rfl
theorem size54 : (sizeOf (Try.prog.elem 54)).run Try.prog = fun u => .ok 3 u := by kernel_rfl
theorem run_h35 (p : Option Addr) (n cap : Nat) (h : Int) (u : World) (h0 : 0 ≤ h) (h2 : h ≤ cap) : (Instr.sliceAt 35 (.slice p n cap) none (some (.int .i64 h)) none).run Try.prog u = .ok (sliced p 0 h.toNat cap 7) u := by
  rw [run_sliceAt_slice u 35 _ _ _ _ Try.underlying35, run_slice_h u 35 p n cap Try.underlying35 .i64 h h0 h2, size35]
  rfl
theorem run_l35 (p : Option Addr) (n cap : Nat) (l : Int) (u : World) (h0 : 0 ≤ l) (h1 : l ≤ n) : (Instr.sliceAt 35 (.slice p n cap) (some (.int .i64 l)) none none).run Try.prog u = .ok (sliced p l.toNat n cap 7) u := by
  rw [run_sliceAt_slice u 35 _ _ _ _ Try.underlying35, run_slice_l u 35 p n cap Try.underlying35 .i64 l h0 h1, size35]
  rfl
theorem run_h54 (p : Option Addr) (n cap : Nat) (h : Int) (u : World) (h0 : 0 ≤ h) (h2 : h ≤ cap) : (Instr.sliceAt 54 (.slice p n cap) none (some (.int .i64 h)) none).run Try.prog u = .ok (sliced p 0 h.toNat cap 3) u := by
  rw [run_sliceAt_slice u 54 _ _ _ _ Try.underlying54, run_slice_h u 54 p n cap Try.underlying54 .i64 h h0 h2, size54]
  rfl
theorem run_l54 (p : Option Addr) (n cap : Nat) (l : Int) (u : World) (h0 : 0 ≤ l) (h1 : l ≤ n) : (Instr.sliceAt 54 (.slice p n cap) (some (.int .i64 l)) none none).run Try.prog u = .ok (sliced p l.toNat n cap 3) u := by
  rw [run_sliceAt_slice u 54 _ _ _ _ Try.underlying54, run_slice_l u 54 p n cap Try.underlying54 .i64 l h0 h1, size54]
  rfl

/-! The reference's box. -/
def rbA (vh vt : Value) (nx : Nat → Int) : Array Value := #[vh, vt, .int .u16 (nx 0), .int .u16 (nx 1), .int .u16 (nx 2), .int .u16 (nx 3), .int .u16 (nx 4), .int .u16 (nx 5), .int .u16 (nx 6), .int .u16 (nx 7)]
structure RB (Z : Nat) (w : World) (g : Nat) (vh vt : Value) (x : S) : Prop where
  row : At w g 56 (rbA vh vt x.next)
  held : OwnQ Z w vh x.held
  wait : OwnT Z w vt x.wait
  le : Z ≤ g
  ok : x.ok
def Rbox (Z : Nat) (w : World) (g : Nat) (x : S) : Prop := ∃ vh vt, RB Z w g vh vt x
/-- The kinds of blocks that the reference's box writes. -/
def RT (T : Nat) : Prop := T = 56 ∨ T = 45 ∨ T = 85
def RX (Z : Nat) (w : World) (k : Nat) : Prop := Z ≤ k ∧ ∃ T cs, At w k T cs ∧ RT T
section
variable {w w1 w2 : World} {Z g : Nat} {vh vt : Value} {x : S}
theorem RX.not_other {q T : Nat} {cs : Array Value} (h : At w q T cs) (hT : ¬ RT T) : ¬ RX Z w q := by
  rintro ⟨_, T', cs', h', hr⟩
  by_cases e : T' = T
  · exact hT (e ▸ hr)
  · exact at_ne h' h e rfl
theorem RX.not_map {q : Nat} (h : ∃ es clock, w.heap[q]? = some (.map es clock)) : ¬ RX Z w q := by
  rintro ⟨_, T', cs', h', hr⟩
  obtain ⟨es, clock, hb⟩ := h
  have h2 : w.heap[q]? = some (.cells cs' T' (0, 0)) := h'
  rw [hb] at h2
  cases h2
theorem RX.not_own {B e k n q : Nat} {v : Value} {us : List Value} (h : w.ownsRow B e k v n us) (he : ¬ RT e) (hq : v.ownBlock = some q) : ¬ RX Z w q := by
  obtain ⟨cur, hc⟩ := own_at h hq
  exact RX.not_other hc he
theorem rx_trans (h : ButX (RX Z w) w w1) (k : ButX (RX Z w1) w1 w2) : ButX (RX Z w) w w2 := by
  refine ⟨k.os.trans h.os, k.tape.trans h.tape, k.output.trans h.output, Nat.le_trans h.size k.size, fun i hi hx => ?_⟩
  have e := h.block i hi hx
  refine (k.block i (Nat.lt_of_lt_of_le hi h.size) ?_).trans e
  rintro ⟨hz, T, cs, hat, hr⟩
  have hat' : w1.heap[i]? = some (.cells cs T (0, 0)) := hat
  exact hx ⟨hz, T, cs, (by rw [e] at hat'; exact hat'), hr⟩
theorem rx_below (h : ButX (RX Z w) w w1) (k : Below w1.heap.size w1 w2) : ButX (RX Z w) w w2 := rx_trans h (ButX.ofBelow k)
theorem rx_step (h : ButX (RX Z w) w w1) {q T : Nat} {cs : Array Value} (hg : w1.grownBy w2 (some q)) (hat : At w1 q T cs) (hT : RT T) (hz : Z ≤ q) : ButX (RX Z w) w w2 :=
  rx_trans h (ButX.ofGrown hg (fun k e => by cases e; exact ⟨hz, T, cs, hat, hT⟩))
theorem rx_new (h : ButX (RX Z w) w w1) {q : Nat} (hg : w1.grownBy w2 (some q)) (hz : w.heap.size ≤ q) : ButX (RX Z w) w w2 :=
  butX_grown h hg (fun k e => by cases e; exact .inr hz)
theorem rx_own (h : ButX (RX Z w) w w1) {B e k n : Nat} {v : Value} {us : List Value} (hg : w1.grownBy w2 v.ownBlock) (ho : w1.ownsRow B e k v n us) (hT : RT e) (hz : Z ≤ B) : ButX (RX Z w) w w2 := by
  cases hv : v.ownBlock with
  | none =>
    rw [hv] at hg
    exact rx_below h ⟨hg.os, hg.tape, hg.output, hg.size, fun i hi => hg.block i hi (by simp)⟩
  | some q =>
    obtain ⟨cur, hc⟩ := own_at ho hv
    rw [hv] at hg
    exact rx_step h hg hc hT (Nat.le_trans hz (ho.lt q hv).1)
theorem RB.below (h : RB Z w g vh vt x) (hb : Below w.heap.size w w1) : RB Z w1 g vh vt x := ⟨h.row.ext hb, h.held.below hb, h.wait.below hb, h.le, h.ok⟩
/-- A block of another kind turns. -/
theorem RB.other (h : RB Z w g vh vt x) {q T : Nat} {cs : Array Value} (hg : w.grownBy w1 (some q)) (hat : At w q T cs) (hT : ¬ RT T) (h5 : T ≠ 5) : RB Z w1 g vh vt x := by
  have a1 : T ≠ 56 := fun e => hT (.inl e)
  have a2 : T ≠ 45 := fun e => hT (.inr (.inl e))
  have a3 : T ≠ 85 := fun e => hT (.inr (.inr e))
  exact ⟨h.row.kept' hg (fun e => at_ne hat h.row a1 (Option.some.inj e)), h.held.other hg hat a2 h5, h.wait.other hg hat a3 h5, h.le, h.ok⟩
theorem q_but {X : Nat → Prop} {B : Nat} {v : Value} {al : List A} (h : OwnQ B w v al) (hb : ButX X w w1) (hx : ∀ q T cs, At w q T cs → (T = 45 ∨ T = 5) → ¬ X q) : OwnQ B w1 v al := by
  obtain ⟨zs, h1, h2, h3⟩ := h
  exact ⟨zs, h1, own_but h2 hb (fun q hq => by obtain ⟨cur, hc⟩ := own_at h2 hq; exact hx q _ _ hc (.inl rfl)), fun z hz => own_but (h3 z hz) hb (fun q hq => by obtain ⟨cur, hc⟩ := own_at (h3 z hz) hq; exact hx q _ _ hc (.inr rfl))⟩
theorem t_but {X : Nat → Prop} {B : Nat} {v : Value} {al : List T} (h : OwnT B w v al) (hb : ButX X w w1) (hx : ∀ q T cs, At w q T cs → (T = 85 ∨ T = 5) → ¬ X q) : OwnT B w1 v al := by
  obtain ⟨zs, h1, h2, h3⟩ := h
  exact ⟨zs, h1, own_but h2 hb (fun q hq => by obtain ⟨cur, hc⟩ := own_at h2 hq; exact hx q _ _ hc (.inl rfl)), fun z hz => own_but (h3 z hz) hb (fun q hq => by obtain ⟨cur, hc⟩ := own_at (h3 z hz) hq; exact hx q _ _ hc (.inr rfl))⟩
theorem g_but {X : Nat → Prop} {B : Nat} {v : Value} {al : List G} (h : OwnG B w v al) (hb : ButX X w w1) (hx : ∀ q T cs, At w q T cs → (T = 32 ∨ T = 5) → ¬ X q) : OwnG B w1 v al := by
  obtain ⟨zs, h1, h2, h3⟩ := h
  exact ⟨zs, h1, own_but h2 hb (fun q hq => by obtain ⟨cur, hc⟩ := own_at h2 hq; exact hx q _ _ hc (.inl rfl)), fun z hz => own_but (h3 z hz) hb (fun q hq => by obtain ⟨cur, hc⟩ := own_at (h3 z hz) hq; exact hx q _ _ hc (.inr rfl))⟩
/-- The program's box turns: the reference's stays. -/
theorem RB.butX (h : RB Z w g vh vt x) {Z' g' b1 b2 : Nat} {x' : S} (hB : Box Z' w g' b1 b2 x') (hb : ButX (BX g' b1 b2) w w1) : RB Z w1 g vh vt x := by
  obtain ⟨vs, vw, m1, m2, hh⟩ := hB
  have key : ∀ q T cs, At w q T cs → T ≠ 75 → ¬ BX g' b1 b2 q := by
    intro q T cs hat hT hx
    rcases hx with rfl | rfl | rfl
    · exact at_ne hat hh.row hT rfl
    · exact hh.map1.ne_at hat rfl
    · exact hh.map2.ne_at hat rfl
  exact ⟨Chunk.at_but h.row hb (key _ _ _ h.row (by decide)), q_but h.held hb (fun q T cs hat hT => key q T cs hat (by rcases hT with rfl | rfl <;> decide)), t_but h.wait hb (fun q T cs hat hT => key q T cs hat (by rcases hT with rfl | rfl <;> decide)), h.le, h.ok⟩
theorem not_rt {T : Nat} (h1 : T ≠ 56) (h2 : T ≠ 45) (h3 : T ≠ 85) : ¬ RT T := fun h => by rcases h with h | h | h; exact h1 h; exact h2 h; exact h3 h
/-- The reference's box turns: the program's stays. -/
theorem box_butR {Z' g' b1 b2 : Nat} {x' : S} (hB : Box Z' w g' b1 b2 x') (hb : ButX (RX Z w) w w1) : Box Z' w1 g' b1 b2 x' := by
  obtain ⟨vs, vw, m1, m2, hh⟩ := hB
  exact ⟨vs, vw, m1, m2, Chunk.at_but hh.row hb (RX.not_other hh.row (not_rt (by decide) (by decide) (by decide))), hh.map1.but hb (RX.not_map hh.map1.isMap), hh.map2.but hb (RX.not_map hh.map2.isMap), hh.ne, hh.says1, hh.says2,
    fun a ha => own_but (hh.rows1 a ha) hb (fun q hq => RX.not_own (hh.rows1 a ha) (not_rt (by decide) (by decide) (by decide)) hq), fun y hy => own_but (hh.rows2 y hy) hb (fun q hq => RX.not_own (hh.rows2 y hy) (not_rt (by decide) (by decide) (by decide)) hq), hh.ok⟩
theorem g_butR {B : Nat} {v : Value} {al : List G} (h : OwnG B w v al) (hb : ButX (RX Z w) w w1) : OwnG B w1 v al :=
  g_but h hb (fun q T cs hat hT => RX.not_other hat (by rcases hT with rfl | rfl <;> exact not_rt (by decide) (by decide) (by decide)))
theorem row_butR {B : Nat} {v : Value} {xs : List Int} (h : Row .u8 5 B w v xs) (hb : ButX (RX Z w) w w1) : Row .u8 5 B w1 v xs :=
  own_but h hb (fun q hq => RX.not_own h (not_rt (by decide) (by decide) (by decide)) hq)
theorem rx_ahead (hb : ButX (RX Z w) w w1) (hZ : Z ≤ w.heap.size) : Below Z w w1 := hb.below (fun k h => h.1) hZ
end
end Go.Proofs.Yteiiifonejkjbaa.Rb
