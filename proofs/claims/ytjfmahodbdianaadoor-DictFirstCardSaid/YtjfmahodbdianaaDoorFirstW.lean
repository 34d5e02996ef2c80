/-
  DictFirst: the walk.
-/
import Derived.Test.YtjfmahodbdianaaDoorLight
import Derived.Deep.Cut
namespace Go.Proofs.YtjfmahodbdianaaDoor.Dict
open Go.RowKit Mem Cells Ops Rule Avps Go.Maps
set_option linter.unusedVariables false
set_option linter.unusedSimpArgs false
theorem OwnR.apart {T B M : Nat} {w w' : World} {v : Value} {rs : List R} {r : Option Nat} (h : OwnR T B w v rs) (hg : w.grownBy w' r) (hlt : ∀ q, v.ownBlock = some q → q < M) (hr : ∀ q, r = some q → M ≤ q) : OwnR T B w' v rs := by
  refine World.ownsRow.kept h hg ?_
  cases e : v.ownBlock with
  | none => exact .inl rfl
  | some q =>
    refine .inr (fun e2 => ?_)
    have h1 := hlt q e
    have h2 := hr q e2.symm
    omega
/-- How two answers stand to each other. -/
def Pair (l : List A) (V1 V2 : Int × List A × Int) : Prop :=
  (V1 = (0, [], 2) ∧ V2 = (0, [], 2)) ∨ (V1.2.2 = 0 ∧ V2.2.2 = 0 ∧ (V1.1 = 2001 ∨ V1.1 = 5005)) ∨ (V1.2.2 = 0 ∧ V2.2.2 = 0 ∧ V1.1 ≠ 2001 ∧ V1.1 ≠ 5005 ∧ V2 = V1 ∧ ∃ x ∈ l, V1.2.1 = [x])
theorem verdict_mem (fit : Int → List Int → Int) (rs : List R) (l : List A) (h : sound rs) (h1 : (verdict fit rs l).1 ≠ 2001) (h2 : (verdict fit rs l).1 ≠ 5005) : ∃ x ∈ l, (verdict fit rs l).2.1 = [x] := by
  rcases verdict_cases fit rs l h with ⟨k, x, n, hx, _, _, _, _, e⟩ | ⟨_, r, _, _, e⟩ | ⟨_, _, e⟩
  · exact ⟨x, List.mem_of_getElem? hx, by rw [e]⟩
  · rw [e] at h2; exact absurd rfl h2
  · rw [e] at h1; exact absurd rfl h1
theorem pair_of (fit : Int → List Int → Int) (rs : List R) (l m : List A) : Pair l (verdict fit rs l) (verdict fit rs (l ++ m)) := by
  by_cases h : sound rs
  · have e1 := verdict_err fit rs l h
    have e2 := verdict_err fit rs (l ++ m) h
    by_cases h1 : (verdict fit rs l).1 = 2001
    · exact .inr (.inl ⟨e1, e2, .inl h1⟩)
    by_cases h2 : (verdict fit rs l).1 = 5005
    · exact .inr (.inl ⟨e1, e2, .inr h2⟩)
    exact .inr (.inr ⟨e1, e2, h1, h2, verdict_more fit rs l m h h1 h2, verdict_mem fit rs l h h1 h2⟩)
  · exact .inl ⟨verdict_form h, verdict_form h⟩
set_option maxRecDepth 100000 in
set_option maxHeartbeats 3200000 in
theorem first_ (rs : List R) (l m : List A) (v u y : Value) (w : World) (hr : ReadsR w v rs) (hl : ReadsL w u l) (hm : ReadsL w y m) (hok : ∀ r ∈ rs, r.ok) (hla : ∀ x ∈ l, x.ok ∧ x.data.length ≤ 140737488351232) (hma : ∀ x ∈ m, x.ok ∧ x.data.length ≤ 140737488351232) (ht : Lib.Utf8Tabs 0 1 w) :
    Calls Tryd.prog 6 #[v, u, y] w fun e w' => e = .returned (.bool true) ∧ Below w.heap.size w w' := by
  obtain ⟨p1, c1, rfl, g1, g2⟩ := hr.shape
  obtain ⟨p2, c2, rfl, g3, g4⟩ := hl.shape
  obtain ⟨p3, c3, rfl, g5, g6⟩ := hm.shape
  have PA := Lib.hid (fun u => answers u)
  have HR := Lib.hid hr
  have HL := Lib.hid hl
  have HM := Lib.hid hm
  obtain ⟨nr, hnr⟩ : ∃ n, rs.length = n := ⟨_, rfl⟩
  obtain ⟨nl, hnl⟩ : ∃ n, l.length = n := ⟨_, rfl⟩
  obtain ⟨nm, hnm⟩ : ∃ n, m.length = n := ⟨_, rfl⟩
  have hnr' : nr ≤ 9223372036854775807 := by unfold maxLen at g2; omega
  have hnl' : nl ≤ 9223372036854775807 := by unfold maxLen at g4; omega
  have hnm' : nm ≤ 9223372036854775807 := by unfold maxLen at g6; omega
  have PL := Lib.hid (fun u => light p1 p2 nr c1 nl c2 u hnr' hnl')
  by_cases hA : nr ≤ 80 ∧ nl ≤ 150
  · have eA : decide (nr ≤ 80 ∧ nl ≤ 150) = true := decide_eq_true hA
    rw [eA] at PL
    by_cases hB : nm ≤ 40
    · have b2 : ¬ (40 : Int) < (nm : Int) := by omega
      have PO1 := Lib.hid (fun q (hq : Below w.heap.size w q) => by
        have := Avp.ownD (.slice p2 l.length c2) l q (HL.out.below hq) (fun a ha => by have := (hla a ha).2; omega)
        rwa [List.take_of_length_le (by omega)] at this)
      have PO2 := Lib.hid (fun q (hq : Below w.heap.size w q) => by
        have := Avp.ownD (.slice p3 m.length c3) m q (HM.out.below hq) (fun a ha => by have := (hma a ha).2; omega)
        rwa [List.take_of_length_le (by omega)] at this)
      have PJ1 := Lib.hid (fun (v u : Value) q (hq : Below w.heap.size w q) (h1 : ReadsR q v rs) (h2 : ReadsL q u l) =>
        judge Fit.fitF rs l v u q h1 h2 hok (fun x hx => ⟨(hla x hx).1, by have := (hla x hx).2; omega⟩) (fun x hx r hr _ => fitsAt r.type x.data q (Utf.tabs_below ht hq) (hla x hx).1.2.2 (by have := (hla x hx).2; omega)))
      have hlm : ∀ x ∈ l ++ m, x.ok ∧ x.data.length ≤ 140737488351232 := fun x hx => (List.mem_append.1 hx).elim (hla x) (hma x)
      have PJ2 := Lib.hid (fun (v u : Value) q (hq : Below w.heap.size w q) (h1 : ReadsR q v rs) (h2 : ReadsL q u (l ++ m)) =>
        judge Fit.fitF rs (l ++ m) v u q h1 h2 hok (fun x hx => ⟨(hlm x hx).1, by have := (hlm x hx).2; omega⟩) (fun x hx r hr _ => fitsAt r.type x.data q (Utf.tabs_below ht hq) (hlm x hx).1.2.2 (by have := (hlm x hx).2; omega)))
      have hP := Lib.hid (pair_of Fit.fitF rs l m)
      have hF1 := verdict_len Fit.fitF rs l
      have hF2 := verdict_len Fit.fitF rs (l ++ m)
      obtain ⟨V1, hV1⟩ : ∃ V, verdict Fit.fitF rs l = V := ⟨_, rfl⟩
      obtain ⟨V2, hV2⟩ : ∃ V, verdict Fit.fitF rs (l ++ m) = V := ⟨_, rfl⟩
      rw [hV1] at hP PJ1 hF1
      rw [hV2] at hP PJ2 hF2
      obtain ⟨C1, F1, E1⟩ := V1
      obtain ⟨C2, F2, E2⟩ := V2
      have HF1 := Lib.hid hF1
      have HF2 := Lib.hid hF2
      clear hF1 hF2
      have K1 := Lib.hid (show ([] : List R).length + rs.length ≤ maxLen by simp [maxLen]; omega)
      have K2 := Lib.hid (show (([] : List R).length + rs.length) * 40 ≤ 140737488355328 by simp; omega)
      have K3 := Lib.hid (show l.length + m.length ≤ maxLen by simp [maxLen]; omega)
      have K4 := Lib.hid (show (l.length + m.length) * 40 ≤ 140737488355328 by omega)
      have HR' : Hid (ReadsR w (.slice p1 nr c1) rs) := by rw [← hnr]; exact HR
      have HL' : Hid (ReadsL w (.slice p2 nl c2) l) := by rw [← hnl]; exact HL
      have HM' : Hid (ReadsL w (.slice p3 nm c3) m) := by rw [← hnm]; exact HM
      rw [hnr, hnl, hnm]
      rw [hnl] at PO1
      rw [hnm] at PO2
      have HNR := Lib.hid hnr
      have HNL := Lib.hid hnl
      have HNM := Lib.hid hnm
      clear HR HL HM
      have HLA := Lib.hid (fun x hx => (hla x hx).1)
      clear hr hl hm hok hla hma ht hlm hV1 hV2 hA hB eA g1 g2 g3 g4 g5 g6 hnr hnl hnm
      go_enter Tryd.func6, Tryd.ntmps6
      go_upto_region 4 with (first
        | (go_at_call 8; go_must (refine (PA.out _).mono ?_; rintro e w1 ⟨rfl, hb1⟩))
        | (go_at_call 9; go_must (refine (PL.out _).mono ?_; rintro e w2 ⟨rfl, hw2⟩; have hb2 : Below w.heap.size w w2 := (by rw [hw2]; exact hb1); clear hb1 hw2))
        | ((with_reducible refine wpl_buildS rfl 22 0 #[] rfl #[] ?_ 37 #[] (fun _ => buildNone _) ?_); (simp); go_must (intro w3 hat hb3 hs3; clear hs3; have hown := ownR_of_at (B := w2.heap.size) [] (T := 37) (g := w2.heap.size) (w := w3) hat (Nat.le_refl _) (by simp); have hbl3 := hb2.trans (hb3.mono hb2.size); have hrr := HR'.out.below hbl3; clear hat))
        | (at_builtin; have _t := hrr; clear _t; go_must (obtain ⟨i40, z40, i1, i2, i3, i4, i5⟩ := info40; refine wpl_appendRR rfl (.tmp 28) (.tmp 29) 22 rfl w2.heap.size 37 40 i40 z40 Tryd.underlying22 i1 i2 i3 i4 i5 _ _ [] rs rfl rfl hown hrr (K1.out) (K2.out) (by have := hb3.size; omega) ?_; clear i1 i2 i3 i4 i5; intro v4 w4 hv4 hg4; rw [List.nil_append] at hv4; have hbl4 := hbl3.grown hg4 hbl3.size (fun q e => by have e' : w2.heap.size = q := Option.some.inj e; have := hb2.size; omega); clear hown hrr hb3 hg4))
        | (go_at_call 11; go_must (refine (PO1.out _ hbl4).mono ?_; rintro e w5 ⟨u5, rfl, ho5, hb5⟩; have hbl5 := hbl4.trans (hb5.mono hbl4.size); have hrd5 := ho5.ownL.reads; clear ho5))
        | (go_at_call 10; go_must (refine (PJ1.out _ _ _ hbl5 (hv4.reads.below hb5) hrd5).mono ?_; rintro e w6 ⟨f6, rfl, hf6, hb6⟩; have hbl6 := hbl5.trans (hb6.mono hbl5.size); clear hrd5 hv4 hb5 hbl4 PJ1)))
      have HLT := Lib.hid (fun (q : World) (v : Value) (h : OwnR 37 w6.heap.size q v rs) k (hk : v.ownBlock = some k) => (h.lt k hk).2)
      clear hb2 hbl3 hb6 hbl5
      go_upto_region 5 with (first
        | ((with_reducible refine wpl_buildS rfl 22 0 #[] rfl #[] ?_ 37 #[] (fun _ => buildNone _) ?_); (simp); go_must (intro w7 hat hb7 hs7; clear hs7; have hown := ownR_of_at (B := w6.heap.size) [] (T := 37) (g := w6.heap.size) (w := w7) hat (Nat.le_refl _) (by simp); have hrr := HR'.out.below (hbl6.trans (hb7.mono hbl6.size)); clear hat))
        | (at_builtin; have _t := hrr; clear _t; go_must (obtain ⟨i40, z40, i1, i2, i3, i4, i5⟩ := info40; refine wpl_appendRR rfl (.tmp 38) (.tmp 39) 22 rfl w6.heap.size 37 40 i40 z40 Tryd.underlying22 i1 i2 i3 i4 i5 _ _ [] rs rfl rfl hown hrr K1.out K2.out (by have := hb7.size; omega) ?_; clear i1 i2 i3 i4 i5; intro v8 w8 hv8 hg8; rw [List.nil_append] at hv8; have ha8 := hb7.grown hg8 hb7.size (fun q e => by have e' : w6.heap.size = q := Option.some.inj e; omega); have tok8 := ha8.size; have hs8 := ha8.size; clear hown hrr hb7 hg8))
        | (go_at_call 11; have _t := tok8; clear _t; go_must (refine (PO1.out _ (hbl6.trans (ha8.mono hbl6.size))).mono ?_; rintro e w9 ⟨u9, rfl, ho9, hb9⟩; have ha9 := ha8.trans (hb9.mono ha8.size); have tok9 := hb9.size; have hv9 := hv8.below hb9; have hL9 := HLT.out _ _ hv8; clear tok8 hv8 ha8))
        | (go_at_call 11; have _t := tok9; clear _t; go_must (refine (PO2.out _ (hbl6.trans (ha9.mono hbl6.size))).mono ?_; rintro e w10 ⟨u10, rfl, ho10, hb10⟩; have ha10 := ha9.trans (hb10.mono ha9.size); have hv10 := hv9.below hb10; have hL10 := fun q e => (ho9.ownL.lt q e).2; have hM10 := fun q e => (ho9.ownL.lt q e).1; have ho10' := ho9.ownL.below hb10; have tok10 := hb10.size; clear hv9 ha9 ho9))
        | (at_builtin; have _t := tok10; clear _t; go_must (obtain ⟨i41, z41, i1, i2, i3, i4, i5⟩ := Avp.info41; refine wpl_appendDD rfl (.tmp 42) (.tmp 44) 23 rfl w8.heap.size 35 40 i41 z41 Tryd.underlying23 i1 i2 i3 i4 i5 w9.heap.size w9.heap.size _ _ l m rfl rfl ho10' ho10 hL10 K3.out K4.out (by omega) ?_; clear i1 i2 i3 i4 i5; intro v11 w11 hv11 hg11; have hv12 := OwnR.apart hv10 hg11 hL9 hM10; have ha11 := ha10.grown hg11 ha10.size (fun q e => by have := hM10 q e; omega); clear ho10 ho10' hv10 ha10 hg11 tok10))
        | (go_at_call 10; go_must (refine (PJ2.out _ _ _ (hbl6.trans (ha11.mono hbl6.size)) hv12.reads hv11.reads).mono ?_; rintro e w13 ⟨f13, rfl, hf13, hb13⟩; have ha13 := ha11.trans (hb13.mono ha11.size); clear hv11 hv12 ha11 PJ2)))
      have hfin := hbl6.trans (ha13.mono hbl6.size)
      have hf7 := hf6.below ha13
      clear hf6 hb9 hb10 hb13 hs8 HLT hbl6
      rcases hP.out with ⟨e1, e2⟩ | ⟨e1, e2, e3⟩ | ⟨e1, e2, h1, h2, e3, x, hx, e4⟩
      · cases e1
        cases e2
        obtain rfl : f6 = .slice none 0 0 := hf7
        obtain rfl : f13 = .slice none 0 0 := hf13
        clear ha13 hP HF1 HF2
        go_wp2_with fail
        go_ret
        exact ⟨rfl, hfin⟩
      · obtain rfl : E1 = 0 := e1
        obtain rfl : E2 = 0 := e2
        clear hf7 hf13 ha13 hP HF1 HF2
        rcases e3 with e3 | e3
        · obtain rfl : C1 = 2001 := e3
          go_wp2_with fail
          go_ret
          exact ⟨rfl, hfin⟩
        · obtain rfl : C1 = 5005 := e3
          go_wp2_with fail
          go_ret
          exact ⟨rfl, hfin⟩
      · cases e3
        obtain rfl : E1 = 0 := e1
        obtain rfl : F1 = [x] := e4
        have hxs : ∀ a ∈ [x], a.ok := fun a ha => by rw [List.mem_singleton] at ha; subst ha; exact HLA.out _ hx
        have PS := Lib.hid (Avp.sameAll f6 f13 [x] [x] w13 (failReads hf7 (Nat.le_refl _)) (failReads hf13 (Nat.le_refl _)) hxs hxs)
        rw [decide_eq_true (rfl : [x] = [x])] at PS
        have b1 : (C1 == 2001) = false := by simpa using h1
        have b2 : (C1 == 5005) = false := by simpa using h2
        clear hf7 hf13 ha13 hP HF1 HF2 h1 h2 e2 hxs
        go_wp2_with (go_at_call 15; go_must (refine PS.out.mono ?_; rintro e w14 ⟨rfl, hb14⟩; have hfin2 := hfin.trans (hb14.mono hfin.size)))
        go_ret
        exact ⟨rfl, hfin2⟩
    · have b2 : (40 : Int) < (nm : Int) := by omega
      rw [hnr, hnl, hnm]
      clear hr hl hm hok hla hma ht HR HL HM hA eA g1 g2 g3 g4 g5 g6 hnr hnl hB
      go_enter Tryd.func6, Tryd.ntmps6
      go_wp2_with (first
        | (go_at_call 8; have _t := hnm; clear _t; go_must (refine (PA.out _).mono ?_; rintro e w1 ⟨rfl, hb1⟩; clear hnm))
        | (go_at_call 8; go_must (refine (PA.out _).mono ?_; rintro e w3 ⟨rfl, hb3⟩; have hb4 := hb2.trans (hb3.mono hb2.size)))
        | (go_at_call 9; go_must (refine (PL.out _).mono ?_; rintro e w2 ⟨rfl, hw2⟩; have hb2 : Below w.heap.size w w2 := (by rw [hw2]; exact hb1); clear hb1 hw2)))
      go_ret
      exact ⟨rfl, hb4⟩
  · have eA : decide (nr ≤ 80 ∧ nl ≤ 150) = false := decide_eq_false hA
    rw [eA] at PL
    rw [hnr, hnl, hnm]
    clear hr hl hm hok hla hma ht HR HL HM hA eA g1 g2 g3 g4 g5 g6 hnr hnl
    go_enter Tryd.func6, Tryd.ntmps6
    go_wp2_with (first
      | (go_at_call 8; have _t := hnm; clear _t; go_must (refine (PA.out _).mono ?_; rintro e w1 ⟨rfl, hb1⟩; clear hnm))
      | (go_at_call 8; go_must (refine (PA.out _).mono ?_; rintro e w3 ⟨rfl, hb3⟩; have hb4 := hb2.trans (hb3.mono hb2.size)))
      | (go_at_call 9; go_must (refine (PL.out _).mono ?_; rintro e w2 ⟨rfl, hw2⟩; have hb2 : Below w.heap.size w w2 := (by rw [hw2]; exact hb1); clear hb1 hw2)))
    go_ret
    exact ⟨rfl, hb4⟩
end Go.Proofs.YtjfmahodbdianaaDoor.Dict
