/-
  DictJudges: the walk.
-/
import Derived.Test.YtjfmahodbdianaaDoorRjudge
namespace Go.Proofs.YtjfmahodbdianaaDoor.Dict
open Go.RowKit Mem Cells Ops Rule Avps Go.Maps
set_option linter.unusedVariables false
set_option linter.unusedSimpArgs false
theorem verdict_oks (fit : Int → List Int → Int) (rs : List R) (l : List A) (hok : ∀ r ∈ rs, r.ok) (hl : ∀ x ∈ l, x.ok) : ∀ a ∈ (verdict fit rs l).2.1, a.ok := by
  by_cases h : sound rs
  · rcases verdict_cases fit rs l h with ⟨k, x, n, hx, _, _, _, _, e⟩ | ⟨_, r, hr, _, e⟩ | ⟨_, _, e⟩
    · rw [e]; intro a ha; rw [List.mem_singleton] at ha; subst ha; exact hl _ (List.mem_of_getElem? hx)
    · rw [e]; intro a ha; rw [List.mem_singleton] at ha; subst ha
      obtain ⟨h1, h2, _⟩ := hok r hr
      refine ⟨h1, h2, fun z hz => ?_⟩
      have := List.eq_of_mem_replicate hz
      omega
    · rw [e]; intro a ha; cases ha
  · rw [verdict_form h]; intro a ha; cases ha
set_option maxRecDepth 100000 in
set_option maxHeartbeats 3200000 in
theorem judges_ (rs : List R) (l : List A) (v u : Value) (w : World) (hr : ReadsR w v rs) (hl : ReadsL w u l) (hok : ∀ r ∈ rs, r.ok) (hla : ∀ x ∈ l, x.ok ∧ x.data.length ≤ 140737488351232) (ht : Lib.Utf8Tabs 0 1 w) :
    Calls Tryd.prog 3 #[v, u] w fun e w' => e = .returned (.bool true) ∧ Below w.heap.size w w' := by
  obtain ⟨p1, c1, rfl, g1, g2⟩ := hr.shape
  obtain ⟨p2, c2, rfl, g3, g4⟩ := hl.shape
  have PA := Lib.hid (fun u => answers u)
  have HR := Lib.hid hr
  have HL := Lib.hid hl
  obtain ⟨nr, hnr⟩ : ∃ n, rs.length = n := ⟨_, rfl⟩
  obtain ⟨nl, hnl⟩ : ∃ n, l.length = n := ⟨_, rfl⟩
  have hnr' : nr ≤ 9223372036854775807 := by unfold maxLen at g2; omega
  have hnl' : nl ≤ 9223372036854775807 := by unfold maxLen at g4; omega
  have PL := Lib.hid (fun u => light p1 p2 nr c1 nl c2 u hnr' hnl')
  by_cases hA : nr ≤ 80 ∧ nl ≤ 150
  · have eA : decide (nr ≤ 80 ∧ nl ≤ 150) = true := decide_eq_true hA
    rw [eA] at PL
    have PO1 := Lib.hid (fun q (hq : Below w.heap.size w q) => by
      have := Avp.own (.slice p2 l.length c2) l q (HL.out.below hq) (fun a ha => by have := (hla a ha).2; omega)
      rwa [List.take_of_length_le (by omega)] at this)
    have PJ1 := Lib.hid (fun (v u : Value) q (hq : Below w.heap.size w q) (h1 : ReadsR q v rs) (h2 : ReadsL q u l) =>
      judge Fit.fitF rs l v u q h1 h2 hok (fun x hx => ⟨(hla x hx).1, by have := (hla x hx).2; omega⟩) (fun x hx r hr _ => fitsAt r.type x.data q (Utf.tabs_below ht hq) (hla x hx).1.2.2 (by have := (hla x hx).2; omega)))
    have PJ2 := Lib.hid (fun q (hq : Below w.heap.size w q) =>
      refJudge rs l (.slice p1 rs.length c1) (.slice p2 l.length c2) q (HR.out.below hq) (HL.out.below hq) hok (fun x hx => ⟨(hla x hx).1, by have := (hla x hx).2; omega⟩))
    have PS1 := Lib.hid (fun (v : Value) q (h1 : ReadsR q v rs) => soundIs v rs q h1 hok)
    have PS2 := Lib.hid (fun q (hq : Below w.heap.size w q) => refRules (.slice p1 rs.length c1) rs q (HR.out.below hq) hok)
    have hF1 := verdict_len Fit.fitF rs l
    have hF2 := verdict_oks Fit.fitF rs l hok (fun x hx => (hla x hx).1)
    obtain ⟨V1, hV1⟩ : ∃ V, verdict Fit.fitF rs l = V := ⟨_, rfl⟩
    obtain ⟨so, hso⟩ : ∃ b, decide (sound rs) = b := ⟨_, rfl⟩
    rw [hV1] at PJ1 PJ2 hF1 hF2
    rw [hso] at PS1 PS2
    obtain ⟨C1, F1, E1⟩ := V1
    have HF1 := Lib.hid hF1
    have HF2 := Lib.hid hF2
    clear hF1 hF2
    have K1 := Lib.hid (show ([] : List R).length + rs.length ≤ maxLen by simp [maxLen]; omega)
    have K2 := Lib.hid (show (([] : List R).length + rs.length) * 40 ≤ 140737488355328 by simp; omega)
    have HR' : Hid (ReadsR w (.slice p1 nr c1) rs) := by rw [← hnr]; exact HR
    have HL' : Hid (ReadsL w (.slice p2 nl c2) l) := by rw [← hnl]; exact HL
    rw [hnr, hnl]
    rw [hnl] at PO1
    rw [hnr, hnl] at PJ2
    rw [hnr] at PS2
    have HNR := Lib.hid hnr
    have HNL := Lib.hid hnl
    clear HR HL
    clear hr hl hok hla ht hV1 hA eA g1 g2 g3 g4 hnr hnl hso
    go_enter Tryd.func3, Tryd.ntmps3
    go_upto_region 4 with (first
      | (go_at_call 8; go_must (refine (PA.out _).mono ?_; rintro e w1 ⟨rfl, hb1⟩))
      | (go_at_call 9; go_must (refine (PL.out _).mono ?_; rintro e w2 ⟨rfl, hw2⟩; have hb2 : Below w.heap.size w w2 := (by rw [hw2]; exact hb1); clear hb1 hw2))
      | ((with_reducible refine wpl_buildS rfl 22 0 #[] rfl #[] ?_ 37 #[] (fun _ => buildNone _) ?_); (simp); go_must (intro w3 hat hb3 hs3; clear hs3; have hown := ownR_of_at (B := w2.heap.size) [] (T := 37) (g := w2.heap.size) (w := w3) hat (Nat.le_refl _) (by simp); have hbl3 := hb2.trans (hb3.mono hb2.size); have hrr := HR'.out.below hbl3; clear hat))
      | (at_builtin; have _t := hrr; clear _t; go_must (obtain ⟨i40, z40, i1, i2, i3, i4, i5⟩ := info40; refine wpl_appendRR rfl (.tmp 21) (.tmp 22) 22 rfl w2.heap.size 37 40 i40 z40 Tryd.underlying22 i1 i2 i3 i4 i5 _ _ [] rs rfl rfl hown hrr K1.out K2.out (by have := hb3.size; omega) ?_; clear i1 i2 i3 i4 i5; intro v4 w4 hv4 hg4; rw [List.nil_append] at hv4; have hbl4 := hbl3.grown hg4 hbl3.size (fun q e => by have e' : w2.heap.size = q := Option.some.inj e; have := hb2.size; omega); clear hown hrr hb3 hg4))
      | (go_at_call 11; go_must (refine (PO1.out _ hbl4).mono ?_; rintro e w5 ⟨u5, rfl, ho5, hb5⟩; have hbl5 := hbl4.trans (hb5.mono hbl4.size); have hrd5 := ho5.reads; clear ho5))
      | (go_at_call 10; go_must (refine (PJ1.out _ _ _ hbl5 (hv4.reads.below hb5) hrd5).mono ?_; rintro e w6 ⟨f6, rfl, hf6, hb6⟩; have hbl6 := hbl5.trans (hb6.mono hbl5.size); have hr6 := failReads hf6 HF1.out; clear hrd5 hv4 hb5 hbl4 PJ1 hf6)))
    clear hb2 hbl3 hb6 hbl5
    go_wp2_with (first
      | (go_at_call 12; go_must (refine (PJ2.out _ hbl6).mono ?_; rintro e w7 ⟨f7, rfl, hr7, hb7⟩; have hbl7 := hbl6.trans (hb7.mono hbl6.size); have hr6' := hr6.below hb7; clear PJ2 hr6 hbl6))
      | ((with_reducible refine wpl_buildS rfl 22 0 #[] rfl #[] ?_ 37 #[] (fun _ => buildNone _) ?_); (simp); go_must (intro w8 hat hb8 hs8; clear hs8; have hown := ownR_of_at (B := w7.heap.size) [] (T := 37) (g := w7.heap.size) (w := w8) hat (Nat.le_refl _) (by simp); have hbl8 := hbl7.trans (hb8.mono hbl7.size); have hrr := HR'.out.below hbl8; clear hat))
      | (at_builtin; have _t := hrr; clear _t; go_must (obtain ⟨i40, z40, i1, i2, i3, i4, i5⟩ := info40; refine wpl_appendRR rfl (.tmp 37) (.tmp 38) 22 rfl w7.heap.size 37 40 i40 z40 Tryd.underlying22 i1 i2 i3 i4 i5 _ _ [] rs rfl rfl hown hrr K1.out K2.out (by have := hb8.size; omega) ?_; clear i1 i2 i3 i4 i5; intro v9 w9 hv9 hg9; rw [List.nil_append] at hv9; have ha9 := hb8.grown hg9 hb8.size (fun q e => by have e' : w7.heap.size = q := Option.some.inj e; omega); clear hown hrr hb8 hg9 hbl8))
      | (go_at_call 13; go_must (refine (PS1.out _ _ hv9.reads).mono ?_; rintro e w10 ⟨rfl, hb10⟩; have ha10 := ha9.trans (hb10.mono ha9.size); clear hb10 ha9 hv9))
      | (go_at_call 14; go_must (refine (PS2.out _ (hbl7.trans (ha10.mono hbl7.size))).mono ?_; rintro e w11 ⟨rfl, hb11⟩; have ha11 := ha10.trans (hb11.mono ha10.size); clear hb11 ha10))
      | (go_at_call 15; go_must (have PSA := (Avp.sameAll f6 f7 F1 F1 w11 (hr6'.below ha11) (hr7.below ha11) HF2.out HF2.out); rw [decide_eq_true (rfl : F1 = F1)] at PSA; refine PSA.mono ?_; rintro e w12 ⟨rfl, hb12⟩; have hfin := hbl7.trans ((ha11.trans (hb12.mono ha11.size)).mono hbl7.size); clear hr6' hr7)))
    go_ret
    exact ⟨rfl, hfin⟩
  · have eA : decide (nr ≤ 80 ∧ nl ≤ 150) = false := decide_eq_false hA
    rw [eA] at PL
    rw [hnr, hnl]
    clear hr hl hok hla ht HR HL hA eA g1 g2 g3 g4 hnr
    go_enter Tryd.func3, Tryd.ntmps3
    go_wp2_with (first
      | (go_at_call 8; have _t := hnl; clear _t; go_must (refine (PA.out _).mono ?_; rintro e w1 ⟨rfl, hb1⟩; clear hnl))
      | (go_at_call 8; go_must (refine (PA.out _).mono ?_; rintro e w3 ⟨rfl, hb3⟩; have hb4 := hb2.trans (hb3.mono hb2.size)))
      | (go_at_call 9; go_must (refine (PL.out _).mono ?_; rintro e w2 ⟨rfl, hw2⟩; have hb2 : Below w.heap.size w w2 := (by rw [hw2]; exact hb1); clear hb1 hw2)))
    go_ret
    exact ⟨rfl, hb4⟩
end Go.Proofs.YtjfmahodbdianaaDoor.Dict
