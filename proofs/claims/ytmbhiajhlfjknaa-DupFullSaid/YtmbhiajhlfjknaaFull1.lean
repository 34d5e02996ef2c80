/-
  append of one more onto a list of the call's own (plain): with room in its block, and without. No walk.
-/
import Derived.Test.YtmbhiajhlfjknaaDup5
import Derived.Deep.AppendSrc
namespace Go.Proofs.Ytmbhiajhlfjknaa.Dup
open Go.RowKit Mem Cells Ops
set_option linter.unusedVariables false
set_option linter.unusedSimpArgs false

theorem OwnK.append {B : Nat} {w : World} {ks : List K} {pl : Option Addr} {n c : Nat} {k : K} {p : Option Addr} {cd g0 : Nat} (ty : TypeId) (h : OwnK B w (.slice pl n c) ks) (hat0 : At w g0 46 (rowK k (.slice p k.bytes.length cd)).toArray)
    (hd : Reads .u8 w (.slice p k.bytes.length cd) k.bytes) (hdB : 0 < k.bytes.length → ∀ q, (Value.slice p k.bytes.length cd).ownBlock = some q → B ≤ q) (hB0 : B ≤ w.heap.size) (hl : ks.length ≤ 100000) :
    ∃ p' c' w', (Builtin.append_ #[37, 37] ty #[.slice pl n c, .slice (some ⟨g0, 0, none⟩) 1 1]).run Try.prog w = .ok (.slice p' (ks.length + 1) c') w' ∧ OwnK B w' (.slice p' (ks.length + 1) c') (ks ++ [k]) ∧ w.grownBy w' (Value.slice pl n c).ownBlock := by
  obtain ⟨i, z, i1, i2, i3, i4, i5⟩ := info46
  obtain ⟨zs, pl', c', ee, h2, h3, h4, h5, h6⟩ := h
  obtain ⟨rfl, rfl, rfl⟩ : pl' = pl ∧ ks.length = n ∧ c' = c := by cases ee; exact ⟨rfl, rfl, rfl⟩
  have hzl : zs.length = ks.length := by rw [← h2, List.length_map]
  obtain ⟨d, hdd⟩ : ∃ d, Value.slice p k.bytes.length cd = d := ⟨_, rfl⟩
  have hnr := noByteRow k p k.bytes.length cd
  have hone : d.oneCell' = true := by rw [← hdd]; rfl
  rw [hdd] at hat0 hd hdB hnr
  have hs : Src Try.prog i.size 37 (.slice (some ⟨g0, 0, none⟩) 1 1) 1 (rowK k d) w := Src.ofSlice w Try.underlying37 ⟨g0, 0, none⟩ 1 1 (rowK k d) (by rw [i3]; rfl) (fun j u hj => by rw [add_none, Nat.zero_add, hat0.cell j]; simpa using hj) (fun u hu => by
    simp only [rowK, List.mem_cons, List.not_mem_nil, or_false] at hu
    rcases hu with rfl | rfl | rfl | rfl
    · rfl
    · rfl
    · rfl
    · exact hone)
  have hfl : (flatK zs).length = ks.length * 4 := by rw [flatK_length, hzl]
  have hfst : (zs ++ [(k, d)]).map Prod.fst = ks ++ [k] := by rw [List.map_append, h2]; rfl
  have hfa : flatK (zs ++ [(k, d)]) = flatK zs ++ rowK k d := by rw [flatK_append]; simp [flatK]
  by_cases hroom : ks.length + 1 ≤ c'
  · rcases h6 with ⟨_, rfl⟩ | ⟨g, off, cur, rfl, hB, hat, hsz, hnb, hc⟩
    · omega
    have hst := run_storeCells_at Try.prog g (off + ks.length * 4) 46 (rowK k d) 0 cur w hat (by simp [rowK]; omega) hs.one
    obtain ⟨cs, hcs⟩ : ∃ cs, (cur.toList.take (off + ks.length * 4 + 0) ++ rowK k d ++ cur.toList.drop (off + ks.length * 4 + 0 + (rowK k d).length)).toArray = cs := ⟨_, rfl⟩
    rw [hcs] at hst
    have hg : w.grownBy (w.setRow g cs) (some g) := ⟨rfl, rfl, rfl, by simp, fun q _ hq => setRow_other _ _ _ _ (fun e => hq (by rw [e]))⟩
    have hcl : cs.size = cur.size := by rw [← hcs]; simp [rowK]; omega
    refine ⟨some ⟨g, off, none⟩, c', w.setRow g cs, ?_, ⟨zs ++ [(k, d)], some ⟨g, off, none⟩, c', by simp, hfst, by simp; omega, h4, ?_, .inr ⟨g, off, cs, rfl, hB, At.row hat, by rw [hcl]; exact hsz, ?_, ?_⟩⟩, hg⟩
    · have hle : ks.length + 1 ≤ c' := hroom
      have hcel := hs.cells
      rw [i3] at hcel
      simp [Builtin.append_, run_underlying Try.underlying37, sizeOf, typeInfo, i1, i3, hs.len, hle, hcel, Addr.add_lit, hst]
    · intro y hy
      rcases List.mem_append.1 hy with hy | hy
      · exact ⟨reads_grown (h5 y hy).1 hg (fun h0 q hq => by cases hq; exact reads_apart hat hnb (h5 y hy).1 h0), (h5 y hy).2⟩
      · rw [List.mem_singleton] at hy
        subst hy
        exact ⟨reads_grown hd hg (fun h0 q hq => by cases hq; exact reads_apart hat hnb hd h0), hdB⟩
    · rw [← hcs]
      refine noByteOf fun v hv x e => ?_
      rcases List.mem_append.1 hv with hv | hv
      · rcases List.mem_append.1 hv with hv | hv
        · exact noByteTake hnb _ v hv x e
        · obtain ⟨j, hj⟩ := List.mem_iff_getElem?.1 hv
          exact hnr j x (by rw [← e]; simpa using hj)
      · exact noByteDrop hnb _ v hv x e
    · intro j u hj
      rw [hfa] at hj
      have hcl2 : off + ks.length * 4 ≤ cur.toList.length := by rw [Array.length_toList (xs := cur)]; omega
      have htk : (cur.toList.take (off + ks.length * 4 + 0)).length = off + ks.length * 4 := by rw [List.length_take]; omega
      rw [← hcs, List.getElem?_toArray]
      by_cases hjl : j < ks.length * 4
      · rw [List.getElem?_append_left (by omega)] at hj
        rw [List.append_assoc, List.getElem?_append_left (by rw [htk]; omega), List.getElem?_take_of_lt (by omega)]
        simpa using hc j u hj
      · rw [List.getElem?_append_right (by omega), hfl] at hj
        have hj4 : j - ks.length * 4 < (rowK k d).length := (List.getElem?_eq_some_iff.1 hj).1
        rw [List.append_assoc, List.getElem?_append_right (by rw [htk]; omega), htk, List.getElem?_append_left (by omega), show off + j - (off + ks.length * 4) = j - ks.length * 4 from by omega]
        exact hj
  · have hold : (Builtin.firstCells i.size ks.length (.slice pl' ks.length c')).run Try.prog w.drew = .ok (flatK zs).toArray w.drew := by
      rcases h6 with ⟨rfl, rfl⟩ | ⟨g, off, cur, rfl, hB, hat, hsz, hnb, hc⟩
      · obtain rfl : zs = [] := List.eq_nil_of_length_eq_zero (by omega)
        exact run_firstCells_none w.drew i.size ks.length ks.length 0
      · refine run_firstCells_some w.drew i.size ks.length ⟨g, off, none⟩ ks.length c' (flatK zs) (by rw [i3]; exact hfl) (fun j u hj => ?_)
        rw [add_none]
        exact (hat.drew.cell _).trans (hc j u hj)
    have hcap := nextslicecap_le (need := ks.length + 1) (old := c') (by omega)
    have hrun := run_append_grow_src (P := Try.prog) w 37 37 ty 46 i z Try.underlying37 i1 i2 pl' ks.length c' (flatK zs) hold (.slice (some ⟨g0, 0, none⟩) 1 1) 1 (rowK k d) hs (by omega) (by omega) (by rw [i4]; omega)
    rw [i5] at hrun
    have hb : Below w.heap.size w (w.drew.alloc (.cells ((flatK zs ++ rowK k d).toArray ++ Builtin.zeroCells zeroK (grownCap w (ks.length + 1) c' 46 - (ks.length + 1))) 46)) := (Frame.ext_drew w).alloc (Nat.le_refl _) _
    have hge := grownCap_ge w (ks.length + 1) c' 46
    refine ⟨some ⟨w.heap.size, 0, none⟩, grownCap w (ks.length + 1) c' 46, _, hrun, ⟨zs ++ [(k, d)], some ⟨w.heap.size, 0, none⟩, grownCap w (ks.length + 1) c' 46, by simp, hfst, by simpa using hge, grownCap_le_maxLen _ _ _ _ (by unfold maxLen; omega), ?_, .inr ⟨w.heap.size, 0, _, rfl, hB0, At.new w.drew 46 _, ?_, ?_, ?_⟩⟩, grown_below _ hb⟩
    · intro y hy
      rcases List.mem_append.1 hy with hy | hy
      · exact ⟨(h5 y hy).1.below hb, (h5 y hy).2⟩
      · rw [List.mem_singleton] at hy
        subst hy
        exact ⟨hd.below hb, hdB⟩
    · simp [Builtin.zeroCells, rowK, zeroK, hfl]
      omega
    · refine noByteApp (noByteOf fun v hv x e => ?_) (noByteZ _)
      rcases List.mem_append.1 hv with hv | hv
      · subst e
        obtain ⟨y, hy, hv⟩ := List.mem_flatMap.1 hv
        simp only [rowK, List.mem_cons, List.not_mem_nil, or_false] at hv
        obtain ⟨p3, c3, e3, _⟩ := (h5 y hy).1
        rw [e3] at hv
        simp at hv
      · obtain ⟨j, hj⟩ := List.mem_iff_getElem?.1 hv
        exact hnr j x (by rw [← e]; simpa using hj)
    · intro j u hj
      rw [Nat.zero_add, Array.getElem?_append_left (by rw [← hfa]; simpa using (List.getElem?_eq_some_iff.1 hj).1)]
      rw [← hfa]
      simpa using hj
end Go.Proofs.Ytmbhiajhlfjknaa.Dup
