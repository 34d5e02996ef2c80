/-
  Contracts of the reference's net: Take.
-/
import Derived.Test.YtmdhpjbahenbhaaRef1
namespace Go.Proofs.Ytmdhpjbahenbhaa.Net
open Go.RowKit Mem Cells Ops Go.Maps
set_option linter.unusedVariables false
set_option linter.unusedSimpArgs false

theorem below_none {a b : World} (h : a.grownBy b none) : Below a.heap.size a b := ⟨h.os, h.tape, h.output, h.size, fun k hk => h.block k hk (by simp)⟩
/-- The first part of a list, new. -/
theorem takeFirst {X : Nat → Prop} {w : World} {g m c k : Nat} {zs : List (F × Value)} (h : OwnF X w (.slice (some ⟨g, 0, none⟩) m c) zs) (hm : zs.length = m) (hk : k < m) (hm1 : m ≤ 1024) :
    ∃ v1 w1, (Builtin.append_ #[44, 44] 44 #[.slice none 0 0, .slice (some ⟨g, 0, none⟩) k c]).run Try.prog w = .ok v1 w1 ∧ Below w.heap.size w w1 ∧ w1.ownsRow 0 35 6 v1 (zs.take k).length (flatF (zs.take k)) ∧ (∀ q, v1.ownBlock = some q → w.heap.size ≤ q) := by
  obtain ⟨v1, w1, hr, h2, h3, h4⟩ := run_appendF (w := w) (v := .slice none 0 0) (zs := []) 44 (World.ownsRow_nil _ _ _ _) ⟨g, 0, none⟩ k c (zs.take k) (by rw [List.length_take]; omega) (by
    intro j u hj
    rw [add_none, Nat.zero_add]
    have := h.row.cells (g := g) rfl j u (by
      have hl := (List.getElem?_eq_some_iff.1 hj).1
      rw [flatF_length, List.length_take] at hl
      rw [flatF_take, List.getElem?_take_of_lt (by omega)] at hj
      exact hj)
    rwa [add_none, Nat.zero_add] at this) (fun z hz => (h.bytes z (List.mem_of_mem_take hz)).one) (by show 0 + k ≤ _; omega)
  rw [List.nil_append] at h2
  refine ⟨v1, w1, hr, below_none h3, h2, fun q hq => ?_⟩
  rcases h4 with e | e
  · rw [e] at hq; cases hq
  · rw [e] at hq; have := Option.some.inj hq; omega
/-- The rest behind it. -/
theorem takeRest {X : Nat → Prop} {w u : World} {g m c k : Nat} {zs : List (F × Value)} (h : OwnF X w (.slice (some ⟨g, 0, none⟩) m c) zs) (hm : zs.length = m) (hk : k < m) (hm1 : m ≤ 1024) (hu : Below w.heap.size w u) {v1 : Value} (hv : u.ownsRow 0 35 6 v1 (zs.take k).length (flatF (zs.take k))) (hv1 : ∀ q, v1.ownBlock = some q → w.heap.size ≤ q)
    (A : Addr) (n1 c1 : Nat) (hn1 : n1 = m - (k + 1)) (hA : ∀ x, Below w.heap.size w x → ∀ j v, (flatF (zs.drop (k + 1)))[j]? = some v → x.cell? (A.add j) = some v) :
    ∃ v2 u2, (Builtin.append_ #[44, 44] 44 #[v1, .slice (some A) n1 c1]).run Try.prog u = .ok v2 u2 ∧ Below w.heap.size w u2 ∧ u2.ownsRow 0 35 6 v2 (zs.eraseIdx k).length (flatF (zs.eraseIdx k)) ∧ (∀ q, v2.ownBlock = some q → w.heap.size ≤ q) := by
  obtain ⟨v2, u2, hr, h2, h3, h4⟩ := run_appendF (w := u) (v := v1) (zs := zs.take k) 44 hv A n1 c1 (zs.drop (k + 1)) (by rw [List.length_drop]; omega) (hA u hu) (fun z hz => (h.bytes z (List.mem_of_mem_drop hz)).one) (by rw [List.length_take]; omega)
  rw [← List.eraseIdx_eq_take_drop_succ] at h2
  refine ⟨v2, u2, hr, hu.grown h3 hu.size (fun q e => hv1 q e), h2, fun q hq => ?_⟩
  rcases h4 with e | e
  · rw [e] at hq; exact hv1 q hq
  · rw [e] at hq; have := Option.some.inj hq; have := hu.size; omega
/-- Where the rest lies. -/
theorem restAt {X : Nat → Prop} {w : World} {g m c k : Nat} {zs : List (F × Value)} (h : OwnF X w (.slice (some ⟨g, 0, none⟩) m c) zs) (hm : zs.length = m) (hk : k < m) :
    ∃ A : Addr, sliced (some ⟨g, 0, none⟩) (k + 1) m c 6 = .slice (some A) (m - (k + 1)) (c - (k + 1)) ∧ ∀ x, Below w.heap.size w x → ∀ j v, (flatF (zs.drop (k + 1)))[j]? = some v → x.cell? (A.add j) = some v := by
  rcases h.row.2 with ⟨hv, _⟩ | ⟨g', cap, cur, hv, _, hgg, h1, h2, h3, h4⟩
  · cases hv
  · cases hv
    rw [hm] at h4
    obtain ⟨A, h5, h6⟩ := tail_cells (cap := c) (show At w g 35 cur from hgg) hm hk h4
    exact ⟨A, h5, fun x hx => h6 (by omega) x (At.ext (show At w g 35 cur from hgg) hx)⟩
theorem OwnF.erase {X Y : Nat → Prop} {w u : World} {v v2 : Value} {zs : List (F × Value)} (k : Nat) (h : OwnF X w v zs) (hu : Below w.heap.size w u) (hX : ∀ q, X q → Y q) (hr : u.ownsRow 0 35 6 v2 (zs.eraseIdx k).length (flatF (zs.eraseIdx k))) (hm : ∀ q, v2.ownBlock = some q → Y q) : OwnF Y u v2 (zs.eraseIdx k) :=
  ⟨hr, hm, fun z hz => ((h.bytes z (List.mem_of_mem_eraseIdx hz)).below hu).mono hX, h.apart.sublist (List.eraseIdx_sublist ..)⟩
set_option maxRecDepth 100000 in
set_option maxHeartbeats 800000 in
theorem rTakeNone {X : Nat → Prop} {w : World} {S : Nat} {hosts : Int} {fs : List F} {cut : Int → Int → Int → Bool} (h : RNet X w S hosts fs cut) (k : Int) (hk : inB fs.length k = false) :
    Calls Try.prog 27 #[.pointer (some ⟨S, 0, none⟩), .int .i64 k] w fun e w' => e = .returned (.tuple #[.agg zero35, .int .i64 8]) ∧ Below w.heap.size w w' := by
  obtain ⟨zs, p, m, c, ds, h⟩ := h
  have hm1 := h.ok.1
  have hfl := h.flen
  rw [hfl] at hm1 hk
  have HC := Lib.hid (And.intro h.row h.h1)
  have hk' : k < 0 ∨ (0 ≤ k ∧ (m : Int) ≤ k) := by simp [inB] at hk; omega
  clear h hfl hk
  rcases hk' with h1 | ⟨h1, h2⟩
  all_goals
    go_enter Try.func27, Try.ntmps27
    go_wp2_with (first
      | ((with_reducible refine wpl_allocAt rfl 35 rfl zero35 (by kernel_rfl) ?_); go_must (intro w1 hat1 hb1 hs1; have c1 := (HC.out.1.ext hb1).cell 1; rw [HC.out.2] at c1; clear hs1))
      | ((with_reducible refine wpl_storeR rfl 35 (.tmp 4) (.tmp 19) rfl rfl w.heap.size 35 zero35 zero35 ?_ ?_ hat1 (by kernel_rfl) ?_ ?_ ?_); rfl; rfl; rfl; (simp [zero35, Value.oneCell']); go_must (intro w3 hat3 hg3; have hu3 := below_grown hb1 hg3 hb1.size (Nat.le_refl _))))
    exact end_cell_tmp (fn := Try.f27) (p := 4) (u := 5) (ty := 35) (by kernel_rfl) rfl hat3 Try.underlying35 rfl (by kernel_rfl) rfl rfl ⟨rfl, hu3⟩
set_option maxRecDepth 100000 in
set_option maxHeartbeats 1600000 in
theorem rTakeZ {X : Nat → Prop} {w : World} {S : Nat} {hosts : Int} {fs : List F} {cut : Int → Int → Int → Bool} {zs : List (F × Value)} {p : Option Addr} {m c : Nat} {ds : Array Value} (h : RHas X w S hosts fs cut zs p m c ds) (k : Nat) (hk : k < m) (z : F × Value) (hz : zs[k]? = some z) :
    Calls Try.prog 27 #[.pointer (some ⟨S, 0, none⟩), .int .i64 k] w fun e w' => e = .returned (.tuple #[.agg (rowF z.1 z.2).toArray, .int .i64 0]) ∧ (∃ p' c' ds', RHas (more X w w') w' S hosts (fs.eraseIdx k) cut (zs.eraseIdx k) p' (m - 1) c' ds') ∧ Own8 (more X w w') w' z.2 z.1.bytes ∧ ButX X w w' := by
  have hm1 := h.ok.1
  rw [h.flen] at hm1
  obtain ⟨g, c', ec, hgl, hXg, hmc, hra, h8⟩ := h.list.elem k z hz
  rw [h.len] at ec hmc
  have hone := h8.one
  have HRA := Lib.hid (fun u (hu : Below w.heap.size w u) => range_below (b := g) (off := k * 6) (cs := rowF z.1 z.2) hra hu hgl)
  have H8 := Lib.hid h8
  have hrow := h.row
  have q1 := h.h1
  cases ec
  have H := Lib.hid h
  obtain ⟨A, hA1, hA2⟩ := restAt h.list h.len hk
  have R33 := Lib.hid (fun u => show (Instr.sliceAt 44 (.slice (some ⟨g, 0, none⟩) m c) none (some (.int .i64 k)) none).run Try.prog u = .ok (.slice (some ⟨g, 0, none⟩) k c) u by
    rw [run_h _ _ _ _ _ (by omega) (by omega)]
    unfold sliced
    simp [Addr.add, show ¬ c = 0 by omega])
  have R43 := Lib.hid (fun u => show (Instr.sliceAt 44 (.slice (some ⟨g, 0, none⟩) m c) (some (.int .i64 ((k : Int) + 1))) none none).run Try.prog u = .ok (.slice (some A) (m - (k + 1)) (c - (k + 1))) u by
    rw [run_l _ _ _ _ _ (by omega) (by omega), show ((k : Int) + 1).toNat = k + 1 from by omega, hA1])
  obtain ⟨f, d⟩ := z
  obtain ⟨pd, cd, rfl, _⟩ : ∃ pd cd, d = .slice pd f.bytes.length cd ∧ True := by obtain ⟨pd, cd, e, _⟩ := h8.1.reads; exact ⟨pd, cd, e, trivial⟩
  have HGL := Lib.hid hgl
  have hkm : (k : Int) < m := by omega
  have hkm2 : decide ((m : Int) ≤ k) = false := decide_eq_false (by omega)
  have hm63 : m ≤ 1024 := by omega
  have HLEN := Lib.hid h.len
  have HDS := Lib.hid h.size
  have HKM := Lib.hid hk
  have HA2 := Lib.hid hA2
  obtain ⟨n1, hn1⟩ : ∃ n1, m - (k + 1) = n1 := ⟨_, rfl⟩
  obtain ⟨k1, hk1⟩ : ∃ k1, c - (k + 1) = k1 := ⟨_, rfl⟩
  rw [hn1, hk1] at R43
  have HN1 := Lib.hid hn1.symm
  clear h h8 hra hone hgl hA1 hA2 hz hk hn1 hk1 hmc
  go_enter Try.func27, Try.ntmps27
  go_upto_region 5 with (first
    | (have _t := hrow; clear _t; (with_reducible refine wpl_allocAt rfl 35 rfl zero35 (by kernel_rfl) ?_); go_must (intro w1 hat1 hb1 hs1; have lS := hrow.lt; have hrow1 := hrow.ext hb1; clear hrow; have c1 := hrow1.cell 1; rw [q1] at c1; have HS1 := Lib.hid hs1; have HRA2 := Lib.hid (HRA.out _ hb1); clear hs1))
    | ((with_reducible refine wpl_loadE rfl 35 (.tmp 25) rfl g (k * 6) ?_ (rowF f (.slice pd f.bytes.length cd)).toArray _ HRA2.out Try.underlying35 rfl (by kernel_rfl) ?_); rfl; clear HRA2)
    | ((with_reducible refine wpl_allocAt rfl 35 rfl zero35 (by kernel_rfl) ?_); go_must (intro w3 hat3 hb3 hs3; have hatr := hat1.ext hb3; have hu3 := hb1.trans (hb3.mono hb1.size); have hrow3 := hrow1.ext hb3; clear hs3 hat1 c1 hrow1))
    | ((with_reducible refine wpl_storeR rfl 35 (.tmp 6) (.tmp 26) rfl rfl w1.heap.size 35 zero35 (rowF f (.slice pd f.bytes.length cd)).toArray ?_ ?_ hat3 (by kernel_rfl) ?_ ?_ ?_); rfl; rfl; rfl; (simp [rowF, Value.oneCell']); go_must (intro w4 hat4 hg4; have hu4 := below_grown hu3 hg4 hu3.size hb1.size; have hatr4 := hatr.grown hg4 (by have := HS1.out; omega); have hrow4 := hrow3.grown hg4 (by have := HS1.out; omega); clear hat3 hg4 hu3 hatr hrow3; have c1 := hrow4.cell 1; rw [q1] at c1)))
  have hl4 := H.out.list.below hu4
  obtain ⟨v1, w5, hrun5, hb5, ho5, hv5⟩ := takeFirst hl4 HLEN.out HKM.out hm63
  have hrow5 := hrow4.ext hb5
  have hat5 := hat4.ext hb5
  have hatr5 := hatr4.ext hb5
  have hTT := hu4.size
  obtain ⟨v2, w6, hrun6, hb6, ho6, hv6⟩ := takeRest hl4 HLEN.out HKM.out hm63 hb5 ho5 hv5 A n1 k1 HN1.out (fun x hx => HA2.out x (hu4.trans (hx.mono hTT)))
  have HL := Lib.hid (And.intro hl4 (And.intro ho6 hv6))
  have HU4 := Lib.hid hu4
  have HB6 := Lib.hid hb6
  have hrow6 := hrow4.ext hb6
  have HAT := Lib.hid (And.intro (hat4.ext hb6) (hatr4.ext hb6))
  have hc5 := hrow5.cell 1
  rw [q1] at hc5
  have HNE := Lib.hid (show S ≠ w1.heap.size ∧ S ≠ w.heap.size from ⟨at_ne hrow4 hat4 (by decide), at_ne hrow4 hatr4 (by decide)⟩)
  have HT4 := Lib.hid hatr4.lt
  obtain ⟨p2, c2, rfl⟩ : ∃ p2 c2, v2 = .slice p2 (m - 1) c2 := by
    have hl : (zs.eraseIdx k).length = m - 1 := by have := HLEN.out; have := HKM.out; rw [List.length_eraseIdx]; split <;> omega
    rw [hl] at ho6
    rcases ho6.2 with ⟨rfl, h0⟩ | ⟨g', cap, cur, rfl, _⟩
    · exact ⟨none, 0, by rw [h0]⟩
    · exact ⟨_, _, rfl⟩
  obtain ⟨ds2, hds2⟩ : ∃ ds2, ds.set! 1 (.slice p2 (m - 1) c2) = ds2 := ⟨_, rfl⟩
  have HR5 := Lib.hid hrun5
  have HR6 := Lib.hid hrun6
  have HD2 := Lib.hid hds2
  clear hl4 hrow5 hrow4 hat4 hatr4 hat5 hatr5 hb5 ho5 hv5 hb6 ho6 hv6 hTT hrun5 hrun6 hds2 hu4
  go_upto_region 6 with (first
    | ((with_reducible refine wpl_sliceR rfl 44 _ _ _ _ rfl (.slice (some ⟨g, 0, none⟩) m c) (.slice (some ⟨g, 0, none⟩) k c) none (some (.int .i64 k)) none ?_ ?_ ?_ ?_ (R33.out _) ?_); rfl; rfl; rfl; rfl)
    | ((with_reducible refine wpl_appendV rfl 44 (.tmp 27) (.tmp 33) rfl (.slice none 0 0) (.slice (some ⟨g, 0, none⟩) k c) v1 w5 ?_ ?_ HR5.out ?_); rfl; rfl; clear c1 R33))
  have c1 := hc5
  clear hc5
  go_wp2_with (first
    | ((with_reducible refine wpl_sliceR rfl 44 _ _ _ _ rfl (.slice (some ⟨g, 0, none⟩) m c) (.slice (some A) n1 k1) (some (.int .i64 ((k : Int) + 1))) none none ?_ ?_ ?_ ?_ (R43.out _) ?_); rfl; rfl; rfl; rfl)
    | ((with_reducible refine wpl_appendV rfl 44 (.tmp 36) (.tmp 43) rfl v1 (.slice (some A) n1 k1) (.slice p2 (m - 1) c2) w6 ?_ ?_ HR6.out ?_); rfl; rfl; clear c1 R43)
    | ((with_reducible refine wpl_storeC rfl 44 (.tmp 46) (.tmp 44) rfl rfl S 1 49 ds ds2 (.slice p2 (m - 1) c2) ?_ ?_ hrow6 ?_ (by kernel_rfl) ?_ ?_ ?_); rfl; rfl; (rw [HDS.out]; decide); rfl; exact HD2.out; go_must (intro w7 hrow7 hg7; have hat7 := HAT.out.1.grown hg7 (Ne.symm HNE.out.1); have hatr7 := HAT.out.2.grown hg7 (Ne.symm HNE.out.2); have HG7 := Lib.hid (And.intro hg7 hrow6); clear hg7 hrow6))
    | ((with_reducible refine wpl_loadAt rfl 35 (.tmp 6) rfl w1.heap.size 35 (rowF f (.slice pd f.bytes.length cd)).toArray hat7 _ Try.underlying35 rfl (by kernel_rfl) ?_ ?_); rfl)
    | ((with_reducible refine wpl_storeR rfl 35 (.tmp 4) (.tmp 47) rfl rfl w.heap.size 35 zero35 (rowF f (.slice pd f.bytes.length cd)).toArray ?_ ?_ hatr7 (by kernel_rfl) ?_ ?_ ?_); rfl; rfl; rfl; (simp [rowF, Value.oneCell']); go_must (intro w8 hat8 hg8; have hrow8 := hrow7.grown hg8 HNE.out.2)))
  have hh := H.out
  obtain ⟨hl4, ho6, hv6⟩ := HL.out
  have hb6 := HB6.out
  have hu4 := HU4.out
  have hg7 := HG7.out.1
  have hT1 := hu4.size
  have hT2 := hb6.size
  have hT3 := hg7.size
  have hT4 := hg8.size
  have hT5 := HAT.out.1.lt
  have hu6 : Below w.heap.size w w6 := hu4.trans (hb6.mono hT1)
  have hO6 : OwnF (more X w w8) w6 (.slice p2 (m - 1) c2) (zs.eraseIdx k) := hl4.erase k hb6 more_self ho6 (fun q hq => .inr ⟨by have := hv6 q hq; omega, by have := (ho6.lt q hq).2; omega⟩)
  have hO7 := hO6.at_ hg7 HG7.out.2 (by decide) (by decide)
  have lz : ∀ y ∈ zs, ∀ q, y.2.ownBlock = some q → q < w.heap.size := fun y hy q hq => ((hh.list.bytes y hy).1.lt q hq).2
  have hO8 := hO7.kept hg8 (by
    cases hv : (Value.slice p2 (m - 1) c2).ownBlock with
    | none => exact .inl rfl
    | some q => exact .inr (fun e => by have := hv6 q hv; have := Option.some.inj e; have := HT4.out; omega)) (fun y hy => .inr (fun e => by have := lz y (List.mem_of_mem_eraseIdx hy) _ e; omega))
  have h86 := (H8.out.below hu6).mono (Y := more X w w8) more_self
  have h87 := h86.kept hg7 (.inr (own_ne h86.1 HG7.out.2 (by decide)))
  have h88 := h87.kept hg8 (.inr (fun e => absurd (H8.out.1.lt _ e).2 (Nat.lt_irrefl _)))
  have hX : ButX X w w8 := (ButX.ofBelow hu6).trans (((ButX.ofGrown (X := more X w w6) hg7 (fun q e => by cases e; exact .inl hh.xS)).trans ((ButX.ofGrown (X := more X w w6) hg8 (fun q e => by cases e; exact .inr ⟨Nat.le_refl _, by have := HAT.out.2.lt; omega⟩)).mono more_self)))
  have hl := hh.len
  have hfl := hh.flen
  have hkm' := HKM.out
  have e1 : (zs.eraseIdx k).length = m - 1 := by rw [List.length_eraseIdx]; split <;> omega
  have hrow8' : At w8 S 49 (ds.set! 1 (.slice p2 (m - 1) c2)) := by rw [HD2.out]; exact hrow8
  refine end_cell_tmp (fn := Try.f27) (p := 4) (u := 5) (ty := 35) (by kernel_rfl) rfl hat8 Try.underlying35 rfl (by kernel_rfl) rfl rfl ⟨rfl, ⟨p2, c2, _, hh.put more_self hrow8' ?_ e1 hO8 ⟨?_, fun q hq => hh.ok.2 q (List.mem_of_mem_eraseIdx hq)⟩⟩, h88, hX⟩
  · rw [← hh.fst, List.eraseIdx_eq_take_drop_succ, List.eraseIdx_eq_take_drop_succ, List.map_append, List.map_take, List.map_drop]
  · rw [List.length_eraseIdx]; split <;> omega
end Go.Proofs.Ytmdhpjbahenbhaa.Net
