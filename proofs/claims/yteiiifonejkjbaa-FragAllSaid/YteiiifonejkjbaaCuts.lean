/-
  Cut of both sides at whatever is asked, by one plain function (cutF); the law FragCuts (3).
-/
import Derived.Test.YteiiifonejkjbaaSame
namespace Go.Proofs.Yteiiifonejkjbaa.Chunk
open Go.RowKit Go.Shelf Mem Cells Ops Pcs Go.Proofs.Yteiiifonejkjbaa.Open
set_option linter.unusedVariables false
set_option linter.unusedSimpArgs false
attribute [local go_sem] Oper.semAt_some

theorem rcutE_eq (L : Nat) (s z : Int) : rcutE L s z = cutE false L s z := by simp [rcutE, cutE]
/-- What Cut answers: pieces, the numbers behind it, the error. -/
def cutF (nx : Nat → Int) (x : C) : List A × (Nat → Int) × Int :=
  if cutE false x.data.length x.s x.z = 0 then (PE x.s.toNat (cutSq x.un nx x.s.toNat) x.un x.data x.z.toNat ((x.data.length + x.z.toNat - 1) / x.z.toNat), cutNx x.un nx x.s.toNat, 0) else ([], nx, cutE false x.data.length x.s x.z)
theorem cuts_k {L k sz : Nat} (hz : 0 < sz) (h1 : L ≤ (k + 1) * sz) (h2 : k * sz < L) : (L + sz - 1) / sz = k + 1 := by
  have e1 : (k + 1) * sz = k * sz + sz := by rw [Nat.add_mul]; omega
  have e2 : (k + 2) * sz = k * sz + sz + sz := by rw [Nat.add_mul]; omega
  exact Nat.div_eq_of_lt_le (by omega) (by show _ < (k + 2) * sz; omega)
theorem OwnQ.readsE {B : Nat} {w : World} {v : Value} {al : List A} (h : OwnQ B w v al) : ReadsE w v al := by
  obtain ⟨p, c, rfl, h1, h2⟩ := h.shape
  refine ⟨p, c, rfl, h1, h2, fun i x hx => ?_⟩
  have hi : i < al.length := (List.getElem?_eq_some_iff.1 hx).1
  obtain ⟨g, c', e, _, _, _, hg⟩ := h.block (by omega)
  cases e
  obtain ⟨p, m, hra, hrow⟩ := OwnQ.elem h i x hx
  exact ⟨g, 0, _, rfl, hg, by rw [Nat.zero_add]; exact hra, hrow.reads⟩
theorem ReadsE.nil (w : World) : ReadsE w (.slice none 0 0) [] := ⟨none, 0, rfl, Nat.le_refl _, Nat.zero_le _, fun i x hx => by simp at hx⟩
theorem cutE_0 {L : Nat} {s z : Int} (hs : 0 ≤ s) (h : cutE false L s z = 0) : 0 < L ∧ L ≤ 4096 ∧ (∃ s' : Nat, s = (s' : Int) ∧ s' < 8 ∧ s.toNat = s') ∧ ∃ sz : Nat, z = (sz : Int) ∧ 0 < sz ∧ sz ≤ 256 ∧ z.toNat = sz := by
  unfold cutE at h
  split at h
  · omega
  · rename_i h1
    simp at h1
    split at h
    · omega
    · exact ⟨by omega, by omega, ⟨s.toNat, by omega, by omega, rfl⟩, ⟨z.toNat, by omega, by omega, by omega, rfl⟩⟩
def nxOk (nx : Nat → Int) : Prop := ∀ i, 0 ≤ nx i ∧ nx i ≤ 65535
theorem nxOk_cut {nx : Nat → Int} (h : nxOk nx) (un : Bool) (s : Nat) : nxOk (cutNx un nx s) := by
  intro i
  unfold cutNx upd
  split
  · exact h i
  · show 0 ≤ (if i = s then IntKind.u16.wrap (nx s + 1) else nx i) ∧ (if i = s then IntKind.u16.wrap (nx s + 1) else nx i) ≤ 65535
    split
    · simp only [IntKind.wrap, IntKind.bits, IntKind.signed]
      have h1 := Int.emod_nonneg (nx s + 1) (show (2 ^ 16 : Int) ≠ 0 by decide)
      have h2 := Int.emod_lt_of_pos (nx s + 1) (show (0 : Int) < 2 ^ 16 by decide)
      simp at *
      omega
    · exact h i
theorem cutF_ok {nx : Nat → Int} (h : nxOk nx) (x : C) : nxOk (cutF nx x).2.1 := by
  unfold cutF
  split
  · exact nxOk_cut h _ _
  · exact h
def CutA (T : Nat) (w : World) (g : Nat) (nx : Nat → Int) (x : C) : Ending → World → Prop := fun e w' => ∃ v, e = .returned (.tuple #[v, .int .i64 (cutF nx x).2.2]) ∧ OwnQ 0 w' v (cutF nx x).1 ∧ At w' g T (nxA (cutF nx x).2.1) ∧ ButX (fun k => k = g) w w'
theorem cut_any (w : World) (g : Nat) (nx : Nat → Int) (hat : At w g 66 (nxA nx)) (x : C) (v : Value) (hr : Reads .u8 w v x.data) (hok : x.ok) :
    Calls Try.prog 10 #[.pointer (some ⟨g, 0, none⟩), .agg #[.int .u16 x.s, v], .bool x.un, .int .i64 x.z] w (CutA 66 w g nx x) := by
  obtain ⟨s, xs, un, z⟩ := x
  obtain ⟨⟨h1, h2⟩, h3, h4, h5⟩ := hok
  simp only at h1 h2 h3 h4 h5 hr ⊢
  by_cases hE : cutE false xs.length s z = 0
  · obtain ⟨k1, k2, ⟨s', rfl, k3, k4⟩, sz, rfl, k5, k6, k7⟩ := cutE_0 h1 hE
    refine (cut_ok w g nx hat s' k3 v xs.length sz xs un hr rfl k1 k2 k5 k6).mono ?_
    rintro e w' ⟨q, c, k, rfl, e1, e2, e3, e4, e5, e6, e7⟩
    have hc : cutF nx ⟨(s' : Int), xs, un, (sz : Int)⟩ = (PE s' (cutSq un nx s') un xs sz (k + 1), cutNx un nx s', 0) := by
      unfold cutF
      simp only [hE, if_true, k4, k7, cuts_k k5 e1 e2]
    unfold CutA
    rw [hc]
    exact ⟨_, rfl, OwnQ.mono e5 (Nat.zero_le _), e6, e7⟩
  · obtain ⟨p, c, rfl, l1, l2, _⟩ := id hr
    refine (cut_bad w (some ⟨g, 0, none⟩) s z p xs.length c un hE (by unfold maxLen at l2; omega) ⟨h1, h2⟩ ⟨h4, h5⟩).mono ?_
    rintro e w' ⟨rfl, hb⟩
    have hc : cutF nx ⟨s, xs, un, z⟩ = ([], nx, cutE false xs.length s z) := by
      unfold cutF
      simp only [hE, if_false]
    unfold CutA
    rw [hc]
    exact ⟨_, rfl, OwnQ.nil _ _, hat.ext hb, ButX.ofBelow hb⟩
theorem rcut_any (w : World) (g : Nat) (nx : Nat → Int) (hat : At w g 29 (nxA nx)) (hn : nxOk nx) (x : C) (v : Value) (hr : Reads .u8 w v x.data) (hok : x.ok) :
    Calls Try.prog 12 #[.pointer (some ⟨g, 0, none⟩), .agg #[.int .u16 x.s, v], .bool x.un, .int .i64 x.z] w (CutA 29 w g nx x) := by
  obtain ⟨s, xs, un, z⟩ := x
  obtain ⟨⟨h1, h2⟩, h3, h4, h5⟩ := hok
  simp only at h1 h2 h3 h4 h5 hr ⊢
  by_cases hE : cutE false xs.length s z = 0
  · obtain ⟨k1, k2, ⟨s', rfl, k3, k4⟩, sz, rfl, k5, k6, k7⟩ := cutE_0 h1 hE
    refine (rcut_ok w g nx hat s' k3 v xs.length sz xs un hr rfl k1 k2 k5 k6 (hn s')).mono ?_
    rintro e w' ⟨q, c, k, rfl, e1, e2, e3, e4, e5, e6, e7⟩
    have hc : cutF nx ⟨(s' : Int), xs, un, (sz : Int)⟩ = (PE s' (cutSq un nx s') un xs sz (k + 1), cutNx un nx s', 0) := by
      unfold cutF
      simp only [hE, if_true, k4, k7, cuts_k k5 e1 e2]
    unfold CutA
    rw [hc]
    exact ⟨_, rfl, OwnQ.mono e5 (Nat.zero_le _), e6, e7⟩
  · obtain ⟨p, c, rfl, l1, l2, _⟩ := id hr
    refine (rcut_bad w (some ⟨g, 0, none⟩) s z p xs.length c un (by rw [rcutE_eq]; exact hE) (by unfold maxLen at l2; omega) ⟨h1, h2⟩ ⟨h4, h5⟩).mono ?_
    rintro e w' ⟨rfl, hb⟩
    rw [rcutE_eq]
    have hc : cutF nx ⟨s, xs, un, z⟩ = ([], nx, cutE false xs.length s z) := by
      unfold cutF
      simp only [hE, if_false]
    unfold CutA
    rw [hc]
    exact ⟨_, rfl, OwnQ.nil _ _, hat.ext hb, ButX.ofBelow hb⟩
theorem row_but {w w' : World} {B : Nat} {v : Value} {xs : List Int} {g : Nat} (h : Row .u8 5 B w v xs) (hb : ButX (fun k => k = g) w w') (hx : v.ownBlock ≠ some g) : Row .u8 5 B w' v xs := by
  refine ⟨h.1, ?_⟩
  rcases h.2 with hn | ⟨q, cap, cur, rfl, hbb, hgg, rest⟩
  · exact .inl hn
  · refine .inr ⟨q, cap, cur, rfl, hbb, ?_, rest⟩
    rw [hb.block q (Array.getElem?_eq_some_iff.1 hgg).1 (fun (e : q = g) => hx (by rw [← e]; rfl))]
    exact hgg
/-- Cut of an own copy: what is known, by which operations have run (3 own, 8 Cut; 9, 10, 12 hand its answer on). -/
structure JQ (w0 : World) (gC : Nat) (nx nx' : Nat → Int) (al : List A) (er : Value) (s : Int) (xs : List Int) (l : Array Bool) (u : Nat → Value) (x : World) : Prop where
  but : ButX (fun k => k = gC) w0 x
  own : l.getD 3 false = true → ∃ d, u 3 = .agg #[.int .u16 s, d] ∧ Row .u8 5 w0.heap.size x d xs
  pre : l.getD 8 false = false → At x gC 66 (nxA nx)
  cut : l.getD 8 false = true → ∃ v, u 8 = .tuple #[v, er] ∧ OwnQ 0 x v al ∧ At x gC 66 (nxA nx') ∧ (l.getD 9 false = true → u 9 = .tuple #[v, er]) ∧ (l.getD 10 false = true → u 10 = v) ∧ (l.getD 12 false = true → u 12 = v)
  o8 : l.getD 8 false = true → l.getD 3 false = true
  o9 : l.getD 9 false = true → l.getD 8 false = true
  o10 : l.getD 10 false = true → l.getD 9 false = true
  o12 : l.getD 12 false = true → l.getD 10 false = true
section
variable {w0 : World} {gC : Nat} {nx nx' : Nat → Int} {al : List A} {er : Value} {s : Int} {xs : List Int} {l : Array Bool} {u : Nat → Value} {x y : World}
theorem JQ.start (h : At w0 gC 66 (nxA nx)) (u : Nat → Value) : JQ w0 gC nx nx' al er s xs (Array.replicate 14 false) u w0.drew := by
  have f : ∀ i, (Array.replicate 14 false).getD i false = false := fun i => by simp [Array.getD_eq_getD_getElem?, Array.getElem?_replicate]; split <;> rfl
  refine ⟨ButX.ofBelow (Below.refl _ _).drew, ?_, fun _ => h.drew, ?_, ?_, ?_, ?_, ?_⟩ <;> (intro h; rw [f] at h; cases h)
theorem setNe {l : Array Bool} {i j : Nat} (h : i ≠ j) : (l.setIfInBounds j true).getD i false = l.getD i false := MonoU.getD_set_ne (Ne.symm h)
theorem upd_ne {u : Nat → Value} {j : Nat} {v : Value} {i : Nat} (h : i ≠ j) : MonoU.upd u j v i = u i := by simp [MonoU.upd, h]
theorem upd_same {u : Nat → Value} {j : Nat} {v : Value} : MonoU.upd u j v j = v := by simp [MonoU.upd]
theorem JQ.pure (h : JQ w0 gC nx nx' al er s xs l u x) (j : Nat) (v : Value) (h3 : 3 ≠ j) (h8 : 8 ≠ j) (h9 : 9 ≠ j) (h10 : 10 ≠ j) (h12 : 12 ≠ j) : JQ w0 gC nx nx' al er s xs (l.setIfInBounds j true) (MonoU.upd u j v) x := by
  have e3 := setNe (l := l) h3
  have e8 := setNe (l := l) h8
  have e9 := setNe (l := l) h9
  have e10 := setNe (l := l) h10
  have e12 := setNe (l := l) h12
  refine ⟨h.but, ?_, ?_, ?_, ?_, ?_, ?_, ?_⟩
  · rw [e3, upd_ne h3]; exact h.own
  · rw [e8]; exact h.pre
  · rw [e8, e9, e10, e12, upd_ne h8, upd_ne h9, upd_ne h10, upd_ne h12]; exact h.cut
  · rw [e8, e3]; exact h.o8
  · rw [e9, e8]; exact h.o9
  · rw [e10, e9]; exact h.o10
  · rw [e12, e10]; exact h.o12
theorem JQ.step3 (h : JQ w0 gC nx nx' al er s xs l u x) (hl : 3 < l.size) (hn : l.getD 3 false = false) (hb : Below x.heap.size x y) (d : Value) (hd : Row .u8 5 x.heap.size y d xs) : JQ w0 gC nx nx' al er s xs (l.setIfInBounds 3 true) (MonoU.upd u 3 (.agg #[.int .u16 s, d])) y := by
  have n8 : l.getD 8 false = false := by
    cases e : l.getD 8 false with
    | false => rfl
    | true => rw [h.o8 e] at hn; cases hn
  have e3 := MonoU.getD_set_same (l := l) hl
  have e8 := setNe (l := l) (show 8 ≠ 3 by decide)
  have e9 := setNe (l := l) (show 9 ≠ 3 by decide)
  have e10 := setNe (l := l) (show 10 ≠ 3 by decide)
  have e12 := setNe (l := l) (show 12 ≠ 3 by decide)
  refine ⟨h.but.trans (ButX.ofBelow hb), fun _ => ⟨d, upd_same, Row.mono hd h.but.size⟩, fun _ => (h.pre n8).ext hb, ?_, ?_, ?_, ?_, ?_⟩
  · rw [e8, n8]; intro h; cases h
  · rw [e8, n8]; intro h; cases h
  · rw [e9, e8]; exact h.o9
  · rw [e10, e9]; exact h.o10
  · rw [e12, e10]; exact h.o12
theorem JQ.step8 (h : JQ w0 gC nx nx' al er s xs l u x) (hl : 8 < l.size) (hn : l.getD 8 false = false) (h3 : l.getD 3 false = true) (v : Value) (hr : OwnQ 0 y v al) (hat : At y gC 66 (nxA nx')) (hb : ButX (fun k => k = gC) x y) :
    JQ w0 gC nx nx' al er s xs (l.setIfInBounds 8 true) (MonoU.upd u 8 (.tuple #[v, er])) y := by
  have n9 : l.getD 9 false = false := by
    cases e : l.getD 9 false with
    | false => rfl
    | true => rw [h.o9 e] at hn; cases hn
  have n10 : l.getD 10 false = false := by
    cases e : l.getD 10 false with
    | false => rfl
    | true => rw [h.o10 e] at n9; cases n9
  have n12 : l.getD 12 false = false := by
    cases e : l.getD 12 false with
    | false => rfl
    | true => rw [h.o12 e] at n10; cases n10
  have e8 := MonoU.getD_set_same (l := l) hl
  have e3 := setNe (l := l) (show 3 ≠ 8 by decide)
  have e9 := setNe (l := l) (show 9 ≠ 8 by decide)
  have e10 := setNe (l := l) (show 10 ≠ 8 by decide)
  have e12 := setNe (l := l) (show 12 ≠ 8 by decide)
  obtain ⟨d, hd, hrow⟩ := h.own h3
  have hrow2 : Row .u8 5 w0.heap.size y d xs := row_but hrow hb (own_ne hrow (h.pre hn) (by decide))
  refine ⟨h.but.trans (hb.mono more_self), fun _ => ⟨d, by rw [upd_ne (by decide)]; exact hd, hrow2⟩, ?_, fun _ => ⟨v, upd_same, hr, hat, ?_, ?_, ?_⟩, ?_, ?_, ?_, ?_⟩
  · rw [e8]; intro h; cases h
  · rw [e9, n9]; intro h; cases h
  · rw [e10, n10]; intro h; cases h
  · rw [e12, n12]; intro h; cases h
  · rw [e3]; exact fun _ => h3
  · rw [e9, n9]; intro h; cases h
  · rw [e10, n10]; intro h; cases h
  · rw [e12, n12]; intro h; cases h
theorem JQ.stepN (h : JQ w0 gC nx nx' al er s xs l u x) (j : Nat) (c v : Value) (hj : j = 9 ∨ j = 10 ∨ j = 12) (hl : j < l.size) (hn : l.getD j false = false) (h8 : l.getD 8 false = true)
    (hv : u 8 = .tuple #[v, er] ∧ OwnQ 0 x v al ∧ At x gC 66 (nxA nx') ∧ (l.getD 9 false = true → u 9 = .tuple #[v, er]) ∧ (l.getD 10 false = true → u 10 = v) ∧ (l.getD 12 false = true → u 12 = v))
    (h9 : j = 9 → c = .tuple #[v, er]) (h10 : j = 10 → c = v ∧ l.getD 9 false = true) (h12 : j = 12 → c = v ∧ l.getD 10 false = true) :
    JQ w0 gC nx nx' al er s xs (l.setIfInBounds j true) (MonoU.upd u j c) x := by
  have e3 := setNe (l := l) (show 3 ≠ j by omega)
  have e8 := setNe (l := l) (show 8 ≠ j by omega)
  have ej := MonoU.getD_set_same (l := l) hl
  have key : ∀ i, i ≠ j → (l.setIfInBounds j true).getD i false = l.getD i false := fun i hi => setNe hi
  have mono : ∀ i, l.getD i false = true → (l.setIfInBounds j true).getD i false = true := fun i hi => by
    by_cases e : i = j
    · rw [e]; exact ej
    · rw [key i e]; exact hi
  refine ⟨h.but, ?_, ?_, fun _ => ⟨v, by rw [upd_ne (by omega)]; exact hv.1, hv.2.1, hv.2.2.1, ?_, ?_, ?_⟩, ?_, ?_, ?_, ?_⟩
  · rw [e3, upd_ne (by omega)]; exact h.own
  · rw [e8, h8]; intro h; cases h
  · intro h'
    by_cases e : 9 = j
    · subst e; rw [upd_same]; exact h9 rfl
    · rw [upd_ne e]; rw [key 9 e] at h'; exact hv.2.2.2.1 h'
  · intro h'
    by_cases e : 10 = j
    · subst e; rw [upd_same]; exact (h10 rfl).1
    · rw [upd_ne e]; rw [key 10 e] at h'; exact hv.2.2.2.2.1 h'
  · intro h'
    by_cases e : 12 = j
    · subst e; rw [upd_same]; exact (h12 rfl).1
    · rw [upd_ne e]; rw [key 12 e] at h'; exact hv.2.2.2.2.2 h'
  · rw [e8, e3]; exact h.o8
  · exact fun _ => mono 8 h8
  · intro h'
    by_cases e : 10 = j
    · exact mono 9 (h10 e.symm).2
    · rw [key 10 e] at h'; exact mono 9 (h.o10 h')
  · intro h'
    by_cases e : 12 = j
    · exact mono 10 (h12 e.symm).2
    · rw [key 12 e] at h'; exact mono 10 (h.o12 h')
theorem JQ.step9 (h : JQ w0 gC nx nx' al er s xs l u x) (hl : 9 < l.size) (hn : l.getD 9 false = false) (h8 : l.getD 8 false = true) (v : Value) (hv : u 8 = .tuple #[v, er] ∧ OwnQ 0 x v al ∧ At x gC 66 (nxA nx') ∧ (l.getD 9 false = true → u 9 = .tuple #[v, er]) ∧ (l.getD 10 false = true → u 10 = v) ∧ (l.getD 12 false = true → u 12 = v)) : JQ w0 gC nx nx' al er s xs (l.setIfInBounds 9 true) (MonoU.upd u 9 (.tuple #[v, er])) x :=
  h.stepN 9 (.tuple #[v, er]) v (.inl rfl) hl hn h8 hv (fun _ => rfl) (fun e => by cases e) (fun e => by cases e)
theorem JQ.step10 (h : JQ w0 gC nx nx' al er s xs l u x) (hl : 10 < l.size) (hn : l.getD 10 false = false) (h9 : l.getD 9 false = true) (v : Value) (hv : u 8 = .tuple #[v, er] ∧ OwnQ 0 x v al ∧ At x gC 66 (nxA nx') ∧ (l.getD 9 false = true → u 9 = .tuple #[v, er]) ∧ (l.getD 10 false = true → u 10 = v) ∧ (l.getD 12 false = true → u 12 = v)) : JQ w0 gC nx nx' al er s xs (l.setIfInBounds 10 true) (MonoU.upd u 10 (v)) x :=
  h.stepN 10 (v) v (.inr (.inl rfl)) hl hn (h.o9 h9) hv (fun e => by cases e) (fun _ => ⟨rfl, h9⟩) (fun e => by cases e)
theorem JQ.step12 (h : JQ w0 gC nx nx' al er s xs l u x) (hl : 12 < l.size) (hn : l.getD 12 false = false) (h10 : l.getD 10 false = true) (v : Value) (hv : u 8 = .tuple #[v, er] ∧ OwnQ 0 x v al ∧ At x gC 66 (nxA nx') ∧ (l.getD 9 false = true → u 9 = .tuple #[v, er]) ∧ (l.getD 10 false = true → u 10 = v) ∧ (l.getD 12 false = true → u 12 = v)) : JQ w0 gC nx nx' al er s xs (l.setIfInBounds 12 true) (MonoU.upd u 12 (v)) x :=
  h.stepN 12 (v) v (.inr (.inr rfl)) hl hn (h.o9 (h.o10 h10)) hv (fun e => by cases e) (fun e => by cases e) (fun _ => ⟨rfl, h10⟩)
end
/-- A message whose bytes are a row of the call's own. -/
def ownMP (B : Nat) (s : Int) (xs : List Int) : Mono.Prp := ⟨fun v u => ∃ d, v = .agg #[.int .u16 s, d] ∧ Row .u8 5 B u d xs, fun _ _ _ ⟨d, e, h⟩ hb => ⟨d, e, Row.below h hb⟩⟩
theorem lt_reads {w : World} {d : Value} {xs : List Int} (h : Reads .u8 w d xs) (h0 : 0 < xs.length) (q : Nat) (hq : d.ownBlock = some q) : q < w.heap.size := by
  obtain ⟨b, h1, h2⟩ := reads_lt h h0
  rw [h1] at hq
  cases hq
  exact h2
theorem reads_but2 {X : Nat → Prop} {w w' : World} {d : Value} {xs : List Int} (h : Reads .u8 w d xs) (hb : ButX X w w') (hx : 0 < xs.length → ∀ q, d.ownBlock = some q → ¬ X q) : Reads .u8 w' d xs := by
  obtain ⟨p, c, rfl, h1, h2, h3, h4⟩ := h
  refine ⟨p, c, rfl, h1, h2, h3, fun h0 => ?_⟩
  obtain ⟨b, off, rfl, hlt, hc⟩ := h4 h0
  refine ⟨b, off, rfl, Nat.lt_of_lt_of_le hlt hb.size, fun i hi => ?_⟩
  have hh : w'.heap[b]? = w.heap[b]? := hb.block b hlt (hx h0 b rfl)
  rw [← hc i hi]
  simp only [World.cell?, hh]
theorem at_but {X : Nat → Prop} {w w' : World} {g T : Nat} {cs : Array Value} (h : At w g T cs) (hb : ButX X w w') (hx : ¬ X g) : At w' g T cs := by
  have hl := At.lt h
  unfold At at h ⊢
  rw [hb.block g hl hx]
  exact h
theorem but_grown {w w' : World} {g : Nat} (hb : ButX (fun k => k = g) w w') : w.grownBy w' (some g) := ⟨hb.os, hb.tape, hb.output, hb.size, fun k hk hn => hb.block k hk (fun e => hn (by rw [e]))⟩
theorem ownQ_but {w w' : World} {B : Nat} {v : Value} {al : List A} {g T : Nat} {cs : Array Value} (h : OwnQ B w v al) (hb : ButX (fun k => k = g) w w') (hat : At w g T cs) (h1 : T ≠ 45) (h2 : T ≠ 5) : OwnQ B w' v al :=
  h.kept (but_grown hb) (fun q e T' cs' hT _ hq => by cases e; exact at_ne hq hat (by rcases hT with rfl | rfl; exact fun e => h1 e.symm; exact fun e => h2 e.symm) rfl)
theorem range_head {w : World} {g T : Nat} {cs : Array Value} (h : At w g T cs) (n : Nat) : w.rangeAt g 0 (cs.toList.take n) := fun j v hv => by
  have hj : cs.toList[j]? = some v := by
    rw [List.getElem?_take] at hv
    split at hv
    · exact hv
    · cases hv
  exact range_at h j v hj

set_option maxRecDepth 100000 in
set_option maxHeartbeats 4000000 in
theorem cuts_ (w : World) (v : Value) (al : List C) (hv : ReadsC w v al) (hok : ∀ a ∈ al, a.ok) (hlen : ∀ a ∈ al, a.data.length ≤ 140737488355328) :
    Calls Try.prog 3 #[v] w (TrueB w) := by
  obtain ⟨p, c, rfl, h1, h2, h3⟩ := hv
  obtain ⟨n, hn⟩ : ∃ n, al.length = n := ⟨_, rfl⟩
  rw [hn] at h1 ⊢
  have HN := Lib.hid hn
  have H3 := Lib.hid h3
  have HOK := Lib.hid hok
  have HLEN := Lib.hid hlen
  have hnm : n ≤ 9223372036854775807 := by unfold maxLen at h2; omega
  clear hn h3 h1 h2 hok hlen
  obtain ⟨W0, hW0⟩ : ∃ W0, w = W0 := ⟨w, rfl⟩
  rw [hW0] at H3 ⊢
  clear hW0
  go_enter Try.func3, Try.ntmps3
  go_upto_region 3 with (first
    | (go_at_call 9; go_must (refine (newC _).mono ?_; rintro e w1 ⟨rfl, hat1, hb1, hs1⟩; have HB1 := Lib.hid hb1; have HA1 := Lib.hid hat1; have HS1 := Lib.hid hs1; clear hat1 hb1 hs1))
    | ((with_reducible refine wpl_boxAt rfl 29 (.tmp 12) rfl (nxA fun _ => 0) ?_ ?_); rfl; go_must (intro w2 hat2 hb2 hs2; have HA2 := Lib.hid hat2; have HA1' := Lib.hid (HA1.out.ext hb2); have HB2 := Lib.hid (HB1.out.trans (hb2.mono HB1.out.size)); have HS2 := Lib.hid hs2; clear hat2 hb2 hs2 HA1)))
  go_loopw [5] (fun i wr => ∃ (j : Nat) (nx : Nat → Int), Hid (j ≤ n) ∧ i = .int .i64 (j : Int) ∧ Hid (nxOk nx) ∧ Hid (Below W0.heap.size W0 wr) ∧ Hid (At wr W0.heap.size 66 (nxA nx)) ∧ Hid (At wr w1.heap.size 29 (nxA nx))) (fun i _ => n - (intOf i).toNat)
  case atStart => exact ⟨0, fun _ => 0, Nat.zero_le _, rfl, fun _ => ⟨show (0 : Int) ≤ 0 by decide, show (0 : Int) ≤ 65535 by decide⟩, HB2.out, HA1'.out, HA2.out⟩
  case round =>
    clear HA1' HA2
    obtain ⟨j, nx, hj, rfl, HNX, HBL, HAC, HAR⟩ := hrel
    by_cases hlt : j < n
    · have hltz : (j : Int) < (n : Int) := by exact_mod_cast hlt
      have hltb : decide ((j : Int) < (n : Int)) = true := decide_eq_true hltz
      by_cases hl3 : j < 30
      · have h3z : (j : Int) < 30 := by exact_mod_cast hl3
        have h3b : decide ((j : Int) < 30) = true := decide_eq_true h3z
        obtain ⟨x, hx⟩ : ∃ x, al[j]? = some x := ⟨al[j]'(by rw [HN.out]; exact hlt), by simp⟩
        have hxm : x ∈ al := List.mem_of_getElem? hx
        have HXO := Lib.hid (HOK.out x hxm)
        have HXL := Lib.hid (HLEN.out x hxm)
        obtain ⟨b, off, d, rfl, hb, hra, hrd⟩ := H3.out j x hx
        have HRA := Lib.hid (range_below hra HBL.out hb)
        obtain ⟨pd, cd, hd, _⟩ := id hrd
        subst hd
        obtain ⟨L, hL⟩ : ∃ L, x.data.length = L := ⟨_, rfl⟩
        have HL := Lib.hid hL
        rw [hL] at HRA hrd
        have hrd0 := hrd
        have HRD := Lib.hid (hrd.below HBL.out)
        have HWW := Lib.hid HBL.out.size
        have HNE := Lib.hid (fun (h0 : 0 < x.data.length) q (hq : (Value.slice pd L cd).ownBlock = some q) => lt_reads hrd0 h0 q hq)
        clear hx hb hra hrd hxm hL hrd0
        go_upto_region 8 with (first
          | ((with_reducible refine wpl_loadE rfl 34 (.tmp 26) rfl b (off + j * 4) ?_ (rowC x (.slice pd L cd)).toArray _ HRA.out Try.underlying34 rfl (by kernel_rfl) ?_); rfl; clear HRA)
          | ((with_reducible refine wpl_allocAt rfl 34 rfl #[.int .u16 0, .slice none 0 0, .bool false, .int .i64 0] (by kernel_rfl) ?_); go_must (intro u1 hatu1 hbu1 hsu1; have HBU1 := Lib.hid hbu1; have HBU1' := Lib.hid hbu1; have HSU1 := Lib.hid hsu1; clear hbu1 hsu1))
          | ((with_reducible refine wpl_storeR rfl 34 (.tmp 6) (.tmp 27) rfl rfl wr.heap.size 34 #[.int .u16 0, .slice none 0 0, .bool false, .int .i64 0] (rowC x (.slice pd L cd)).toArray ?_ ?_ hatu1 (by kernel_rfl) ?_ ?_ ?_); rfl; rfl; rfl; simp [rowC, Value.oneCell']; go_must (intro u2 hatu2 hgu2; have HBU2 := Lib.hid (HBU1.out.grown hgu2 HBU1.out.size (fun q e => by cases e; exact Nat.le_refl _)); have HGU2 := Lib.hid hgu2; have HAT2 := Lib.hid hatu2; have HLT2 := Lib.hid hatu2.lt; clear hatu1 hgu2 hatu2 HBU1)))
        have HAC2 := Lib.hid ((HAC.out.ext HBU1'.out).kept' HGU2.out (fun e => by have := HAC.out.lt; have := Option.some.inj e; omega))
        have HAT6 := Lib.hid (fun y (hy : ButX (fun k => k = W0.heap.size) u2 y) => at_but HAT2.out hy (show ¬ wr.heap.size = W0.heap.size by have := HAC.out.lt; omega))
        have HRDX := Lib.hid (fun y (hy : ButX (fun k => k = W0.heap.size) u2 y) => reads_but2 (HRD.out.below HBU2.out) hy (fun h0 q hq e => by have := HNE.out h0 q hq; omega))
        refine MonoU.wp_region_U [some 31, some 32, some 33, some 34, some 35, some 36, some 37, some 38, some 39, some 30, some 40, some 41, some 7, some 8] [some (.pointer (some ⟨W0.heap.size, 0, none⟩)), some (.pointer (some ⟨wr.heap.size, 0, none⟩)), some (.agg #[.int .u16 x.s, .slice pd L cd]), none, some (.pointer (some ⟨wr.heap.size, 2, none⟩)), some (.bool x.un), some (.pointer (some ⟨wr.heap.size, 3, none⟩)), some (.int .i64 x.z), none, none, none, some (.int .i64 (cutF nx x).2.2), none, some (.int .i64 (cutF nx x).2.2)] (JQ u2 W0.heap.size nx (cutF nx x).2.1 (cutF nx x).1 (.int .i64 (cutF nx x).2.2) x.s x.data) (by kernel_rfl) (by kernel_rfl) (by kernel_rfl) (fun _ => undef) ?_ ?_ ?_
        · exact JQ.start HAC2.out _
        · simp only [MonoU.OpGoals, and_true]
          refine ⟨?_, ?_, ?_, ?_, ?_, ?_, ?_, ?_, ?_, ?_, ?_, ?_, ?_, ?_⟩
          · intro l u a y hJ hsz hjn hdep hsame hval hfresh
            have z3 : a.eval (.tmp 3) = .pointer (some ⟨W0.heap.size, 0, none⟩) := hsame 3 (by decide)
            simp [Act.eval] at z3
            exact wp_val (.pointer (some ⟨W0.heap.size, 0, none⟩)) y (by simp [execOp, z3, go_sem]) ⟨.pointer (some ⟨W0.heap.size, 0, none⟩), rfl, (fun c e => by cases e; rfl), hJ.pure 0 _ (by decide) (by decide) (by decide) (by decide) (by decide)⟩
          · intro l u a y hJ hsz hjn hdep hsame hval hfresh
            have z6 : a.eval (.tmp 6) = .pointer (some ⟨wr.heap.size, 0, none⟩) := hsame 6 (by decide)
            simp [Act.eval] at z6
            exact wp_val (.pointer (some ⟨wr.heap.size, 0, none⟩)) y (by simp [execOp, z6, go_sem]) ⟨.pointer (some ⟨wr.heap.size, 0, none⟩), rfl, (fun c e => by cases e; rfl), hJ.pure 1 _ (by decide) (by decide) (by decide) (by decide) (by decide)⟩
          · intro l u a y hJ hsz hjn hdep hsame hval hfresh
            have z32 : a.eval (.tmp 32) = .pointer (some ⟨wr.heap.size, 0, none⟩) := hval 1 32 (hdep ⟨1, .data⟩ (by simp) rfl) rfl
            have hr := run_loadVar_mid (P := Try.prog) y wr.heap.size 0 32 [.int .u16 x.s, .slice pd L cd] _ (range_head (HAT6.out y hJ.but) 2) Try.underlying32 rfl (by kernel_rfl)
            exact wp_loadV 32 (.tmp 32) rfl _ (.agg #[.int .u16 x.s, .slice pd L cd]) z32 (by simp only [Instr.loadAt, Instr.sureAddr, Sem.run_bind, Sem.run_pure, Result.andThen_ok, hr]) ⟨_, rfl, (fun c e => by cases e; rfl), hJ.pure 2 _ (by decide) (by decide) (by decide) (by decide) (by decide)⟩
          · intro l u a y hJ hsz hjn hdep hsame hval hfresh
            have z33 : a.eval (.tmp 33) = .agg #[.int .u16 x.s, .slice pd L cd] := hval 2 33 (hdep ⟨2, .data⟩ (by simp) rfl) rfl
            simp [Act.eval] at z33
            have hrd := HRDX.out y hJ.but
            exact wp_callF 11 _ _ rfl #[.agg #[.int .u16 x.s, .slice pd L cd]] (by simp [execOp, z33, go_sem]) ((own11 y x.s (.slice pd L cd) x.data hrd HXL.out).mono fun e y2 ⟨d, h1, h2, h3⟩ => ⟨_, h1, _, rfl, (fun c e => by cases e), hJ.step3 (by rw [hsz]; decide) (MonoU.getD_false hjn) h3 d h2⟩)
          · intro l u a y hJ hsz hjn hdep hsame hval hfresh
            have z6 : a.eval (.tmp 6) = .pointer (some ⟨wr.heap.size, 0, none⟩) := hsame 6 (by decide)
            simp [Act.eval] at z6
            exact wp_val (.pointer (some ⟨wr.heap.size, 2, none⟩)) y (by simp [execOp, z6, go_sem]) ⟨.pointer (some ⟨wr.heap.size, 2, none⟩), rfl, (fun c e => by cases e; rfl), hJ.pure 4 _ (by decide) (by decide) (by decide) (by decide) (by decide)⟩
          · intro l u a y hJ hsz hjn hdep hsame hval hfresh
            have z35 : a.eval (.tmp 35) = .pointer (some ⟨wr.heap.size, 2, none⟩) := hval 4 35 (hdep ⟨4, .data⟩ (by simp) rfl) rfl
            simp [Act.eval] at z35
            have ck := (HAT6.out y hJ.but).cell 2
            simp [rowC] at ck
            exact wp_val (.bool x.un) y (by simp [execOp, z35, go_sem, ck]) ⟨.bool x.un, rfl, (fun c e => by cases e; rfl), hJ.pure 5 _ (by decide) (by decide) (by decide) (by decide) (by decide)⟩
          · intro l u a y hJ hsz hjn hdep hsame hval hfresh
            have z6 : a.eval (.tmp 6) = .pointer (some ⟨wr.heap.size, 0, none⟩) := hsame 6 (by decide)
            simp [Act.eval] at z6
            exact wp_val (.pointer (some ⟨wr.heap.size, 3, none⟩)) y (by simp [execOp, z6, go_sem]) ⟨.pointer (some ⟨wr.heap.size, 3, none⟩), rfl, (fun c e => by cases e; rfl), hJ.pure 6 _ (by decide) (by decide) (by decide) (by decide) (by decide)⟩
          · intro l u a y hJ hsz hjn hdep hsame hval hfresh
            have z37 : a.eval (.tmp 37) = .pointer (some ⟨wr.heap.size, 3, none⟩) := hval 6 37 (hdep ⟨6, .data⟩ (by simp) rfl) rfl
            simp [Act.eval] at z37
            have ck := (HAT6.out y hJ.but).cell 3
            simp [rowC] at ck
            exact wp_val (.int .i64 x.z) y (by simp [execOp, z37, go_sem, ck]) ⟨.int .i64 x.z, rfl, (fun c e => by cases e; rfl), hJ.pure 7 _ (by decide) (by decide) (by decide) (by decide) (by decide)⟩
          · intro l u a y hJ hsz hjn hdep hsame hval hfresh
            have z31 : a.eval (.tmp 31) = .pointer (some ⟨W0.heap.size, 0, none⟩) := hval 0 31 (hdep ⟨0, .data⟩ (by simp) rfl) rfl
            have z34 : a.eval (.tmp 34) = u 3 := hval 3 34 (hdep ⟨3, .data⟩ (by simp) rfl) rfl
            have z36 : a.eval (.tmp 36) = .bool x.un := hval 5 36 (hdep ⟨5, .data⟩ (by simp) rfl) rfl
            have z38 : a.eval (.tmp 38) = .int .i64 x.z := hval 7 38 (hdep ⟨7, .data⟩ (by simp) rfl) rfl
            have h3 : l.getD 3 false = true := hdep ⟨3, .data⟩ (by simp) rfl
            obtain ⟨d, hd, hrow⟩ := hJ.own h3
            rw [hd] at z34
            simp [Act.eval] at z31 z34 z36 z38
            exact wp_callF 10 _ _ rfl #[.pointer (some ⟨W0.heap.size, 0, none⟩), .agg #[.int .u16 x.s, d], .bool x.un, .int .i64 x.z] (by simp [execOp, z31, z34, z36, z38, go_sem]) ((cut_any y W0.heap.size nx (hJ.pre (MonoU.getD_false hjn)) x d hrow.reads HXO.out).mono fun e y2 ⟨v, h1, h2, h4, h5⟩ => ⟨_, h1, _, rfl, (fun c e => by cases e), hJ.step8 (by rw [hsz]; decide) (MonoU.getD_false hjn) h3 v h2 h4 h5⟩)
          · intro l u a y hJ hsz hjn hdep hsame hval hfresh
            have h8 : l.getD 8 false = true := hdep ⟨8, .data⟩ (by simp) rfl
            have z39 : a.eval (.tmp 39) = u 8 := hval 8 39 (hdep ⟨8, .data⟩ (by simp) rfl) rfl
            obtain ⟨v, hv⟩ := hJ.cut h8
            rw [hv.1] at z39
            simp [Act.eval] at z39
            exact wp_val (.tuple #[v, .int .i64 (cutF nx x).2.2]) y (by simp [execOp, z39, go_sem]) ⟨_, rfl, (fun c e => by cases e), hJ.step9 (by rw [hsz]; decide) (MonoU.getD_false hjn) h8 v hv⟩
          · intro l u a y hJ hsz hjn hdep hsame hval hfresh
            have h9 : l.getD 9 false = true := hdep ⟨9, .data⟩ (by simp) rfl
            have z30 : a.eval (.tmp 30) = u 9 := hval 9 30 (hdep ⟨9, .data⟩ (by simp) rfl) rfl
            obtain ⟨v, hv⟩ := hJ.cut (hJ.o9 h9)
            rw [hv.2.2.2.1 h9] at z30
            simp [Act.eval] at z30
            exact wp_val v y (by simp [execOp, z30, go_sem]) ⟨_, rfl, (fun c e => by cases e), hJ.step10 (by rw [hsz]; decide) (MonoU.getD_false hjn) h9 v hv⟩
          · intro l u a y hJ hsz hjn hdep hsame hval hfresh
            have h9 : l.getD 9 false = true := hdep ⟨9, .data⟩ (by simp) rfl
            have z30 : a.eval (.tmp 30) = u 9 := hval 9 30 (hdep ⟨9, .data⟩ (by simp) rfl) rfl
            obtain ⟨v, hv⟩ := hJ.cut (hJ.o9 h9)
            rw [hv.2.2.2.1 h9] at z30
            simp [Act.eval] at z30
            exact wp_val (.int .i64 (cutF nx x).2.2) y (by simp [execOp, z30, go_sem]) ⟨_, rfl, (fun c e => by cases e; rfl), hJ.pure 11 _ (by decide) (by decide) (by decide) (by decide) (by decide)⟩
          · intro l u a y hJ hsz hjn hdep hsame hval hfresh
            have h10 : l.getD 10 false = true := hdep ⟨10, .data⟩ (by simp) rfl
            have z40 : a.eval (.tmp 40) = u 10 := hval 10 40 (hdep ⟨10, .data⟩ (by simp) rfl) rfl
            obtain ⟨v, hv⟩ := hJ.cut (hJ.o9 (hJ.o10 h10))
            rw [hv.2.2.2.2.1 h10] at z40
            simp [Act.eval] at z40
            exact wp_val v y (by simp [execOp, z40, go_sem]) ⟨_, rfl, (fun c e => by cases e), hJ.step12 (by rw [hsz]; decide) (MonoU.getD_false hjn) h10 v hv⟩
          · intro l u a y hJ hsz hjn hdep hsame hval hfresh
            have z41 : a.eval (.tmp 41) = .int .i64 (cutF nx x).2.2 := hval 11 41 (hdep ⟨11, .data⟩ (by simp) rfl) rfl
            simp [Act.eval] at z41
            exact wp_val (.int .i64 (cutF nx x).2.2) y (by simp [execOp, z41, go_sem]) ⟨.int .i64 (cutF nx x).2.2, rfl, (fun c e => by cases e; rfl), hJ.pure 13 _ (by decide) (by decide) (by decide) (by decide) (by decide)⟩
        intro u3 w3 hJ3
        obtain ⟨v, e1, e2, e3, e4, e5, e6⟩ := hJ3.cut rfl
        have e12 := e6 rfl
        have HB3 := Lib.hid hJ3.but
        have HRE3 := Lib.hid e2
        have HAC3 := Lib.hid e3
        have HAT3 := Lib.hid (HAT6.out w3 hJ3.but)
        have HRD3 := Lib.hid (HRDX.out w3 hJ3.but)
        have HAR3 := Lib.hid (at_but ((HAR.out.ext HBU1'.out).kept' HGU2.out (fun e => by have := HAR.out.lt; have := Option.some.inj e; omega)) hJ3.but (show ¬ w1.heap.size = W0.heap.size by have := HS1.out; omega))
        have c0 := HAT3.out.cell 0
        have c1 := HAT3.out.cell 1
        have c2 := HAT3.out.cell 2
        have c3 := HAT3.out.cell 3
        simp [rowC] at c0 c1 c2 c3
        obtain ⟨er, her⟩ : ∃ er, (cutF nx x).2.2 = er := ⟨_, rfl⟩
        have HER := Lib.hid her
        rw [her]
        clear hJ3 e1 e2 e3 e4 e5 e6 her
        simp [Act.put, MonoU.pick]
        rw [e12]
        clear e12
        go_wp2_with (first
          | (go_at_call 12; go_must (refine (rcut_any _ w1.heap.size nx HAR3.out HNX.out x _ HRD3.out HXO.out).mono ?_; rintro e w4 ⟨v4, he4, hr4, hat4, hb4⟩; rw [HER.out] at he4; subst he4; have HR4 := Lib.hid hr4; have HA4 := Lib.hid hat4; have HB4 := Lib.hid hb4; have HRE4 := Lib.hid (ownQ_but HRE3.out hb4 HAR3.out (by decide) (by decide)); clear hr4 hat4 hb4))
          | (go_at_call 13; go_must (refine (same_ _ _ _ _ (OwnQ.readsE HRE4.out) (OwnQ.readsE HR4.out)).mono ?_; rintro e w5 ⟨rfl, hb5⟩; have HB5 := Lib.hid hb5; clear hb5)))
        go_roundw
        case rel =>
          have hs1 := HS1.out
          have hsr := HBL.out.size
          have q1 := HBL.out.trans (HBU2.out.mono hsr)
          have q2 := q1.trans (HB3.out.below (B := W0.heap.size) (fun k e => by rw [e]; exact Nat.le_refl _) q1.size)
          have q3 := q2.trans (HB4.out.below (B := W0.heap.size) (fun k e => by rw [e]; omega) q2.size)
          have q4 := q3.trans (HB5.out.mono q3.size)
          exact ⟨j + 1, (cutF nx x).2.1, hlt, by go_num, cutF_ok HNX.out x, q4, (at_but HAC3.out HB4.out (show ¬ W0.heap.size = w1.heap.size by omega)).ext HB5.out, HA4.out.ext HB5.out⟩
        case measure => simp [intOf]; omega
      · have h3z : ¬ (j : Int) < 30 := by exact_mod_cast hl3
        have h3b : decide ((j : Int) < 30) = false := decide_eq_false h3z
        go_wp2_with (go_at_call 14; go_must (refine (answers _).mono ?_; rintro e w3 ⟨rfl, hb3⟩; have HB3 := Lib.hid (HBL.out.trans (hb3.mono HBL.out.size))))
        go_ret
        exact ⟨rfl, HB3.out⟩
    · have hltz : ¬ (j : Int) < (n : Int) := by exact_mod_cast hlt
      have hltb : decide ((j : Int) < (n : Int)) = false := decide_eq_false hltz
      go_wp2_with (go_at_call 14; go_must (refine (answers _).mono ?_; rintro e w3 ⟨rfl, hb3⟩; have HB3 := Lib.hid (HBL.out.trans (hb3.mono HBL.out.size))))
      go_ret
      exact ⟨rfl, HB3.out⟩
end Go.Proofs.Yteiiifonejkjbaa.Chunk
