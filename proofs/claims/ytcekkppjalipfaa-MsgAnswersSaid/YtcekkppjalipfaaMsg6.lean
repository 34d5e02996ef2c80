/-
  A message that came in; contracts of PutMsg, Put, answers, own.
-/
import Derived.Test.YtcekkppjalipfaaMsg4
import Derived.Test.YtcekkppjalipfaaOwn1
import Derived.Test.YtcekkppjalipfaaOpen3
namespace Go.Proofs.Ytcekkppjalipfaa.Open
open Go.ChangeShapes Go.WideShapes Go.RowKit Mem Avps Avp
set_option linter.unusedVariables false
section
variable {H : Type} {enc : TypeId × Value → H} {W : World}
theorem attrsC {fuel : Nat} {a : Option Addr} {len cap : Nat} {x : DataW H × List MemPlace} (hf : DataW.trod enc Try.prog W 0 (fun _ => true) true fuel 23 [.slice a len cap] = some x) :
    ∃ al, ReadsL W (.slice a len cap) al ∧ (∀ a ∈ al, a.ok) ∧ (Sz Try.prog 23 x.1 → ∀ a ∈ al, a.data.length ≤ 140737488351232) := by
  obtain ⟨a', len', cap', e, h1, h2, h3, h4, h5, h6⟩ := elems (k := 5) Try.underlying23 (by kernel_rfl) (by decide) hf
  simp at e
  obtain ⟨rfl, rfl, rfl⟩ := e
  rcases Nat.eq_zero_or_pos len with h0 | h0
  · subst h0
    exact ⟨[], ⟨a, cap, [], rfl, h1, h2, h3, rfl, (fun z hz => by cases hz), fun h => absurd h (Nat.lt_irrefl _)⟩, (fun x hx => by cases hx), fun _ x hx => by cases hx⟩
  · obtain ⟨b, off, rfl, hb⟩ := h4 h0
    have key : ∀ i : Fin len, ∃ z : A × Value, (∀ j, j < 5 → W.cell? ⟨b, off + i.1 * 5 + j, none⟩ = (row z.1 z.2)[j]?) ∧ z.1.ok ∧ Reads .u8 W z.2 z.1.data ∧ (Sz Try.prog 23 x.1 → z.1.data.length ≤ 140737488351232) := by
      intro i
      obtain ⟨cs', n, y, k1, k2, k3, k4⟩ := h6 b off rfl i.1 i.2
      obtain ⟨y', px, cx, rfl, o1, o2, o3⟩ := attr k3
      exact ⟨(y', .slice px y'.data.length cx), k2, o1, o2, fun hs => o3 (k4 hs)⟩
    obtain ⟨f, hf⟩ := Classical.axiomOfChoice key
    have hlen : ((List.ofFn f).map Prod.fst).length = len := by simp
    have hmem : ∀ z ∈ List.ofFn f, ∃ i : Fin len, f i = z := fun z hz => by simpa using hz
    refine ⟨(List.ofFn f).map Prod.fst, ⟨some ⟨b, off, none⟩, cap, List.ofFn f, by rw [hlen], by rw [hlen]; exact h1, h2, (fun h => by cases h), rfl, ?_, ?_⟩, ?_, ?_⟩
    · intro z hz
      obtain ⟨i, rfl⟩ := hmem z hz
      exact (hf i).2.2.1
    · intro _
      refine ⟨b, off, rfl, hb, fun j hj => ?_⟩
      rw [hlen] at hj
      have hi : j / 5 < len := by omega
      have hz : (List.ofFn f)[j / 5]? = some (f ⟨j / 5, hi⟩) := by simp [hi]
      have e1 := flat_get _ (j / 5) _ hz (j % 5) (by omega)
      rw [show j / 5 * 5 + j % 5 = j by omega] at e1
      rw [e1, ← (hf ⟨j / 5, hi⟩).1 (j % 5) (by omega)]
      show W.cell? ⟨b, off + j, none⟩ = W.cell? ⟨b, off + j / 5 * 5 + j % 5, none⟩
      rw [show off + j = off + j / 5 * 5 + j % 5 by omega]
    · intro x hx
      obtain ⟨z, hz, rfl⟩ := List.mem_map.1 hx
      obtain ⟨i, rfl⟩ := hmem z hz
      exact (hf i).2.1
    · intro hs x hx
      obtain ⟨z, hz, rfl⟩ := List.mem_map.1 hx
      obtain ⟨i, rfl⟩ := hmem z hz
      exact (hf i).2.2.2 hs
theorem msg {v : Value} {d : DataW H} {p : List MemPlace} {base : Nat} (hv : Value.okWide Try.prog W .any base 25 v) (h : DataW.Trod enc Try.prog W 0 (fun _ => true) true 25 v d p) :
    ∃ (m : M) (p : Option Addr) (c : Nat), v = .agg (rowM m (.slice p m.avps.length c)) ∧ ReadsL W (.slice p m.avps.length c) m.avps ∧ m.ok ∧ (Sz Try.prog 25 d → ∀ a ∈ m.avps, a.data.length ≤ 140737488351232) := by
  obtain ⟨cs, rfl, hcs, hw⟩ := agg_cells (ts := [4, 4, 4, 4, 22, 22, 22, 22, 23]) Try.underlying25 (by kernel_rfl) hv
  rw [show Try.prog.cellsOf 25 = 9 from by kernel_rfl] at hcs
  obtain ⟨fuel, hf⟩ := h
  obtain ⟨hl, hf⟩ := field Try.underlying25 hf
  match cs, hcs with
  | ⟨[c0, c1, c2, c3, c4, c5, c6, c7, c8]⟩, _ =>
    have hc8 := hw 8 c8 rfl
    obtain ⟨u8, hu8, hok8⟩ := hc8
    obtain ⟨a8, l8, k8, rfl⟩ := cell_slice (u := u8) (by cases hu8; exact Try.underlying23) hok8
    obtain ⟨n0, y0, h0, _⟩ := hf 0 _ rfl
    obtain ⟨n1, y1, h1, _⟩ := hf 1 _ rfl
    obtain ⟨n2, y2, h2, _⟩ := hf 2 _ rfl
    obtain ⟨n3, y3, h3, _⟩ := hf 3 _ rfl
    obtain ⟨n4, y4, h4, _⟩ := hf 4 _ rfl
    obtain ⟨n5, y5, h5, _⟩ := hf 5 _ rfl
    obtain ⟨n6, y6, h6, _⟩ := hf 6 _ rfl
    obtain ⟨n7, y7, h7, _⟩ := hf 7 _ rfl
    obtain ⟨n8, y8, h8, s8⟩ := hf 8 _ rfl
    obtain ⟨a0, e0, _⟩ := DataW.trod_bool Try.underlying4 h0
    obtain ⟨a1, e1, _⟩ := DataW.trod_bool Try.underlying4 h1
    obtain ⟨a2, e2, _⟩ := DataW.trod_bool Try.underlying4 h2
    obtain ⟨a3, e3, _⟩ := DataW.trod_bool Try.underlying4 h3
    obtain ⟨a4, e4, _, w4⟩ := DataW.trod_int Try.underlying22 h4
    obtain ⟨a5, e5, _, w5⟩ := DataW.trod_int Try.underlying22 h5
    obtain ⟨a6, e6, _, w6⟩ := DataW.trod_int Try.underlying22 h6
    obtain ⟨a7, e7, _, w7⟩ := DataW.trod_int Try.underlying22 h7
    have k22 : Try.prog.cellsOf 22 = 1 := by kernel_rfl
    have k4 : Try.prog.cellsOf 4 = 1 := by kernel_rfl
    have k23 : Try.prog.cellsOf 23 = 1 := by kernel_rfl
    simp [k22, k4, k23, Value.cells] at e0 e1 e2 e3 e4 e5 e6 e7 h8
    subst e0; subst e1; subst e2; subst e3; subst e4; subst e5; subst e6; subst e7
    obtain ⟨al, r1, r2, r3⟩ := attrsC h8
    obtain ⟨pp, cc, ee, _, _⟩ := r1.shape
    cases ee
    refine ⟨⟨a0, a1, a2, a3, a4, a5, a6, a7, al⟩, _, _, rfl, r1, ⟨?_, ?_, ?_, ?_, r2⟩, fun h => r3 (s8 h)⟩
    · have := bounds_u32 w4; unfold u32; omega
    · have := bounds_u32 w5; unfold u32; omega
    · have := bounds_u32 w6; unfold u32; omega
    · have := bounds_u32 w7; unfold u32; omega
end
end Go.Proofs.Ytcekkppjalipfaa.Open
namespace Go.Proofs.Ytcekkppjalipfaa.Avp
open Go.RowKit Mem Cells Avps Wire Ops
set_option linter.unusedVariables false
set_option linter.unusedSimpArgs false

theorem msgPut (m : M) (p : Option Addr) (c : Nat) (w : World) (hr : ReadsL w (.slice p m.avps.length c) m.avps) (hok : m.ok) (hd : ∀ a ∈ m.avps, a.data.length ≤ 140737488355300) :
    Calls Try.prog 10 #[.agg (rowM m (.slice p m.avps.length c))] w (PutIs w (putM m)) := by
  by_cases h1 : 16777215 < m.code
  · exact msgPut_1 m p c w hr hok hd h1
  by_cases h2 : mixB m = true
  · exact msgPut_2 m p c w hr hok hd (by omega) h2
  have h2' : mixB m = false := by simpa using h2
  rcases put_no m.avps with ⟨X, h3⟩ | h3
  · by_cases h4 : 4096 < 20 + X.length
    · exact msgPut_4 m p c X w hr hok hd (by omega) h2' h3 h4
    · exact msgPut_5 m p c X w hr hok hd (by omega) h2' h3 (by omega)
  · exact msgPut_3 m p c w hr hok hd (by omega) h2' h3
theorem putMsg (m : M) (p : Option Addr) (c : Nat) (w : World) (hr : ReadsL w (.slice p m.avps.length c) m.avps) (hok : m.ok) (hd : ∀ a ∈ m.avps, a.data.length ≤ 140737488355300) :
    Calls Try.prog 12 #[.agg (rowM m (.slice p m.avps.length c))] w (PutIs w (putM m)) := by
  by_cases h1 : 16777215 < m.code
  · exact putM_1 m p c w hr hok hd h1
  by_cases h2 : mixB m = true
  · exact putM_2 m p c w hr hok hd (by omega) h2
  have h2' : mixB m = false := by simpa using h2
  rcases put_no m.avps with ⟨X, h3⟩ | h3
  · by_cases h4 : 4096 < 20 + X.length
    · exact putM_4 m p c X w hr hok hd (by omega) h2' h3 h4
    · unfold mixB at h2'
      cases hq : m.req <;> cases hp : m.prox <;> cases hf : m.fail <;> cases hg : m.again <;> rw [hq, hf, hg] at h2' <;> simp at h2'
      · exact putM_5_0000 m p c X w hr hok hd (by omega) h3 (by omega) hq hp hf hg
      · exact putM_5_0010 m p c X w hr hok hd (by omega) h3 (by omega) hq hp hf hg
      · exact putM_5_0100 m p c X w hr hok hd (by omega) h3 (by omega) hq hp hf hg
      · exact putM_5_0110 m p c X w hr hok hd (by omega) h3 (by omega) hq hp hf hg
      · exact putM_5_1000 m p c X w hr hok hd (by omega) h3 (by omega) hq hp hf hg
      · exact putM_5_1001 m p c X w hr hok hd (by omega) h3 (by omega) hq hp hf hg
      · exact putM_5_1100 m p c X w hr hok hd (by omega) h3 (by omega) hq hp hf hg
      · exact putM_5_1101 m p c X w hr hok hd (by omega) h3 (by omega) hq hp hf hg
  · exact putM_3 m p c w hr hok hd (by omega) h2' h3
theorem putM_take (m : M) : putM { m with avps := m.avps.take 200 } = putM m := by
  have h : putOf (m.avps.take 200) = putOf m.avps := by
    by_cases h : m.avps.length ≤ 200
    · rw [List.take_of_length_le h]
    · unfold putOf
      rw [if_pos (.inl (by rw [List.length_take]; omega)), if_pos (.inl (by omega))]
  have e : ∀ n, headM { m with avps := m.avps.take 200 } n = headM m n := fun n => rfl
  have e2 : mixB { m with avps := m.avps.take 200 } = mixB m := rfl
  unfold putM
  simp only [e, e2, h]
def ansM : M := ⟨true, false, false, false, 280, 0, 0, 0, []⟩
theorem ansPut : putM ansM = ([1, 0, 0, 20, 128, 0, 1, 24, 0, 0, 0, 0, 0, 0, 0, 0, 0, 0, 0, 0], 0) := by decide +kernel
set_option maxRecDepth 100000 in
set_option maxHeartbeats 400000 in
theorem answers (w : World) : Calls Try.prog 13 #[] w fun e w' => e = .returned (.bool true) ∧ Below w.heap.size w w' := by
  have PA := msgPut ansM none 0 w (ReadsL.nil w) ⟨by unfold u32; decide, by unfold u32; decide, by unfold u32; decide, by unfold u32; decide, fun a ha => by cases ha⟩ (fun a ha => by cases ha)
  rw [ansPut] at PA
  have er : rowM ansM (.slice none ansM.avps.length 0) = #[.bool true, .bool false, .bool false, .bool false, .int .u32 280, .int .u32 0, .int .u32 0, .int .u32 0, .slice none 0 0] := rfl
  rw [er] at PA
  have PP := Lib.hid PA
  clear PA er
  go_enter Try.func13, Try.ntmps13
  go_wp2_with (go_at_call 10; go_must (refine PP.out.mono ?_; rintro e w1 ⟨v1, rfl, hv1, hb1⟩; obtain ⟨p1, c1, rfl, _, _, _, hx⟩ := hv1.reads; obtain ⟨b, off, rfl, hlt, hc⟩ := hx (by decide); have c4 := hc 4 (by decide); simp at c4; clear hx hc hv1))
  go_ret
  exact ⟨rfl, hb1⟩
set_option maxRecDepth 100000 in
set_option maxHeartbeats 1600000 in
theorem puts (m : M) (p : Option Addr) (c : Nat) (w : World) (hr : ReadsL w (.slice p m.avps.length c) m.avps) (hok : m.ok) (hd : ∀ a ∈ m.avps, a.data.length ≤ 140737488351232) :
    Calls Try.prog 3 #[.agg (rowM m (.slice p m.avps.length c))] w fun e w' => e = .returned (.bool true) ∧ Below w.heap.size w w' := by
  have hone : (Value.slice p m.avps.length c).oneCell' = true := rfl
  have PO := Lib.hid (fun u (h : ReadsL u (.slice p m.avps.length c) m.avps) => own m p c u h (fun a ha => by have := hd a ha; omega))
  have PP := Lib.hid (fun q k u (h : ReadsL u (.slice q ({ m with avps := m.avps.take 200 } : M).avps.length k) ({ m with avps := m.avps.take 200 } : M).avps) => (putM_take m) ▸ msgPut { m with avps := m.avps.take 200 } q k u h ⟨hok.1, hok.2.1, hok.2.2.1, hok.2.2.2.1, fun a ha => hok.2.2.2.2 a (List.mem_of_mem_take ha)⟩ (fun a ha => by have := hd a (List.mem_of_mem_take ha); omega))
  have PR := Lib.hid (fun u (h : ReadsL u (.slice p m.avps.length c) m.avps) => putMsg m p c u h hok (fun a ha => by have := hd a ha; omega))
  obtain ⟨R, hR⟩ : ∃ R, putM m = R := ⟨_, rfl⟩
  obtain ⟨bs, er⟩ := R
  rw [hR] at PP PR
  obtain ⟨m', hm'⟩ : ∃ m', ({ m with avps := m.avps.take 200 } : M) = m' := ⟨_, rfl⟩
  rw [hm'] at PO PP
  have HR := Lib.hid hr
  clear hR hok hd hm' hr
  go_enter Try.func3, Try.ntmps3
  go_wp2_with (first
    | ((with_reducible refine wpl_boxAt rfl 25 (.tmp 0) rfl (rowM m (.slice p m.avps.length c)) ?_ ?_); rfl; go_must (intro w0 hat0 hb0 hs0; clear hs0))
    | ((with_reducible refine wpl_loadAt rfl 25 (.tmp 1) rfl w.heap.size 25 (rowM m (.slice p m.avps.length c)) hat0 _ Try.underlying25 rfl (by kernel_rfl) ?_ ?_); rfl)
    | (go_at_call 11; go_must (refine (PO.out _ (HR.out.below hb0)).mono ?_; rintro e w1 ⟨p1, n1, c1, rfl, hv1, hb1⟩; obtain ⟨_, _, ee, _⟩ := hv1.reads.shape; cases ee))
    | (go_at_call 10; go_must (refine (PP.out _ _ _ hv1.reads).mono ?_; rintro e w2 ⟨v2, rfl, hv2, hb2⟩; have hb12 := hb1.trans (hb2.mono hb1.size); have hb02 := hb0.trans (hb12.mono hb0.size); have hat2 := hat0.ext hb12; clear hat0; have hat0 := hat2; clear hat2))
    | (go_at_call 12; go_must (refine (PR.out _ (HR.out.below hb02)).mono ?_; rintro e w3 ⟨v3, rfl, hv3, hb3⟩))
    | (go_at_call 13; go_must (refine (answers _).mono ?_; rintro e w4 ⟨rfl, hb4⟩; have hs2 := string23 ((hv2.reads.below hb3).below hb4); have hs3 := string23 (hv3.reads.below hb4); have hb := (hb02.trans (hb3.mono hb02.size)).trans (hb4.mono (hb02.trans (hb3.mono hb02.size)).size); clear hv1 hv2 hv3)))
  go_ret
  exact ⟨rfl, hb⟩
end Go.Proofs.Ytcekkppjalipfaa.Avp
