/-
  Contract: List.
-/
import Derived.Test.YtmdhpjbahenbhaaLast
namespace Go.Proofs.Ytmdhpjbahenbhaa.Net
open Go.RowKit Mem Cells Ops Go.Maps
set_option linter.unusedVariables false
set_option linter.unusedSimpArgs false

section
variable {w : World} {ops : Array Oper} {rest : List Oper} {o : Oper} {a : Act} {Q : Exit → Act → World → Prop}
/-- A slice of one frame. -/
theorem wpl_buildF (hgd : o.guard = none) (x : Operand) (ho : o.op = .buildSlice 44 1 #[(0, x)]) (f : F) (d : Value) (hx : a.eval x = .agg (rowF f d).toArray)
    (h : ∀ w', At w' w.heap.size 35 (rowF f d).toArray → Below w.heap.size w w' → wpList Try.prog ops Q rest (a.put o.dst (.slice (some ⟨w.heap.size, 0, none⟩) 1 1)) w') : wpList Try.prog ops Q (o :: rest) a w :=
  wpList_plain hgd fun K' hK => Mem.wp_build 44 1 x ho _ _ _ hx (buildF f d w) (hK _ _ (h _ (At.new w 35 _) ((Below.refl _ w).alloc (Nat.le_refl _) _)))
end
set_option maxRecDepth 100000 in
theorem ListNil (w : World) : Calls Try.prog 18 #[.pointer none] w fun e w' => e = .returned (.slice none 0 0) ∧ w' = w := by
  go_enter Try.func18, Try.ntmps18
  go_wp2_with (go_at_call 11; go_must (refine (LenNil _).mono ?_; rintro e w2 ⟨rfl, rfl⟩))
  go_loopw [3, 7] (fun v j wr => v = .slice none 0 0 ∧ j = .int .i64 0 ∧ wr = w2) (fun v j _ => 0)
  case atStart => exact ⟨rfl, rfl, rfl⟩
  case round =>
    obtain ⟨rfl, rfl, rfl⟩ := hrel
    go_wp2_with fail
    go_ret
    exact ⟨rfl, rfl⟩
set_option maxRecDepth 100000 in
set_option maxHeartbeats 1600000 in
theorem ListX {X : Nat → Prop} {w : World} {S : Nat} {hosts : Int} {fs : List F} {cut : Int → Int → Int → Bool} {n : Nat} (h : Net X w S hosts fs cut n) :
    Calls Try.prog 18 #[.pointer (some ⟨S, 0, none⟩)] w fun e w' => ∃ v zs, e = .returned v ∧ OwnF (fun q => w.heap.size ≤ q) w' v zs ∧ zs.map Prod.fst = fs ∧ Below w.heap.size w w' := by
  have PL := Lib.hid (Len h)
  obtain ⟨zs, p, m, c, b, D, h⟩ := h
  rw [h.flen] at PL
  have hm1 := h.ok.1
  rw [h.flen] at hm1
  have H := Lib.hid h
  clear h
  go_enter Try.func18, Try.ntmps18
  go_wp2_with (go_at_call 11; go_must (refine PL.out.mono ?_; clear PL; rintro e w2 ⟨rfl, rfl⟩))
  obtain ⟨w, rfl⟩ : ∃ w, w = w2 := ⟨_, rfl⟩
  go_loopw [3, 7] (fun v j wr => ∃ (i : Nat) (ys : List (F × Value)), j = .int .i64 i ∧ i ≤ m ∧ OwnF (fun q => w.heap.size ≤ q) wr v ys ∧ ys.map Prod.fst = fs.take i ∧ Below w.heap.size w wr) (fun v j _ => m - (intOf j).toNat)
  case atStart => exact ⟨0, [], rfl, by omega, OwnF.nil _ _, by simp, Below.refl _ _⟩
  case round =>
    obtain ⟨i, ys, rfl, hi, hO, hys, hbl⟩ := hrel
    by_cases hlt : i < m
    · have hh := H.out.below hbl
      obtain ⟨⟨f, d⟩, hz1, hz2⟩ := hh.get i hlt
      obtain ⟨g, c', ec, hgl, hXg, _, hra, h8⟩ := hh.list.elem i _ hz1
      rw [hh.len] at ec
      cases ec
      have hf := hh.ok.2 f (List.mem_of_getElem? hz2)
      have PC := Lib.hid (cloneF f d wr h8.1.reads (by have := hf.1; omega))
      have c1 := hh.row.cell 1
      simp at c1
      have hyl : ys.length = i := by have := congrArg List.length hys; simp at this; have := hh.flen; omega
      obtain ⟨pv, cv, rfl, _⟩ := hO.shape
      rw [hyl] at hO
      have HO := Lib.hid hO
      have HY := Lib.hid (And.intro hyl (show (ys.map Prod.fst) ++ [f] = fs.take (i + 1) by rw [List.take_add_one, hz2, hys]; rfl))
      have HB := Lib.hid hbl
      have HRA := Lib.hid (show wr.rangeAt g (i * 6) (rowF f d).toArray.toList from hra)
      have hm63 : m ≤ 9223372036854775807 := by omega
      have hlt' : (i : Int) < m := by omega
      rw [hyl]
      clear hh h8 hra hz1 hz2 hf hyl hys hbl hO hlt
      go_wp2_with (first
        | ((with_reducible refine wpl_loadE rfl 35 (.tmp 16) rfl g (i * 6) ?_ (rowF f d).toArray _ HRA.out Try.underlying35 rfl (by kernel_rfl) ?_); rfl)
        | (go_at_call 23; go_must (refine PC.out.mono ?_; clear PC; rintro e w3 ⟨d3, rfl, hr3, hb3⟩; clear c1))
        | ((with_reducible refine wpl_buildF rfl (.tmp 18) rfl f d3 rfl ?_); go_must (intro w4 hat4 hb4; have hb34 := hb3.trans (hb4.mono hb3.size); have hO4 := HO.out.below hb34; have hT := hb34.size; have hT0 := HB.out.size; obtain ⟨v5, w5, hrun5, hO5, hg5⟩ := hO4.append 44 f d3 w3.heap.size hat4 ⟨(hr3.below hb4).mono (Nat.zero_le _), fun q hq => by have := (hr3.lt q hq).1; omega⟩ (fun z hz q h1 h2 => by have h3 := ((HO.out.bytes z hz).1.lt q h1).2; have h4 := (hr3.lt q h2).1; omega) (by have := HY.out.1; omega); have HF := Lib.hid (And.intro hO5 (And.intro hg5 hb34)); have HR5 := Lib.hid hrun5; clear hb34 hO4 hT hT0 hO5 hg5 hat4 hb4 hr3 hb3 hrun5))
        | ((with_reducible refine wpl_appendV rfl 44 (.tmp 10) (.tmp 19) rfl (.slice pv i cv) (.slice (some ⟨w3.heap.size, 0, none⟩) 1 1) v5 w5 ?_ ?_ HR5.out ?_); rfl; rfl))
      go_roundw
      case rel =>
        obtain ⟨o5, g5, b34⟩ := HF.out
        have hT := HB.out.size
        have hT2 := b34.size
        have hb5 : Below w.heap.size w w5 := (HB.out.trans (b34.mono hT)).grown g5 (by omega) (fun q e => HO.out.mine q e)
        refine ⟨i + 1, _, by go_num, by omega, o5.mono (more_from (B := w.heap.size) (fun _ h => h) (by omega)), ?_, hb5⟩
        rw [List.map_append]
        exact HY.out.2
      case measure => simp [intOf]; omega
    · obtain rfl : i = m := by omega
      clear hlt
      go_wp2_with fail
      go_ret
      exact ⟨_, ys, rfl, hO, by rw [hys, List.take_of_length_le (by have := H.out.flen; omega)], hbl⟩
end Go.Proofs.Ytmdhpjbahenbhaa.Net
