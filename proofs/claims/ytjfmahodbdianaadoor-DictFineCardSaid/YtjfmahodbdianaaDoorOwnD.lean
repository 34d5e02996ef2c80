/-
  Lists of attributes of the call's own, whose bytes lie in blocks from some number on; contract: own, so.
-/
import Derived.Test.YtjfmahodbdianaaDoorOwn1
namespace Go.Proofs.YtjfmahodbdianaaDoor.Avps
open Go.RowKit Mem Cells
set_option linter.unusedVariables false
/-- The bytes of z lie in blocks from D on. -/
def From (D : Nat) (z : A × Value) : Prop := 0 < z.1.data.length → ∀ q, z.2.ownBlock = some q → D ≤ q
def OwnD (D T B : Nat) (w : World) (v : Value) (al : List A) : Prop :=
  ∃ zs : List (A × Value), zs.map Prod.fst = al ∧ (∀ z ∈ zs, Reads .u8 w z.2 z.1.data ∧ Apart v z) ∧ w.ownsRow B T 5 v al.length (flat zs) ∧ ∀ z ∈ zs, From D z
theorem OwnD.ownL {D T B : Nat} {w : World} {v : Value} {al : List A} (h : OwnD D T B w v al) : OwnL T B w v al := by
  obtain ⟨zs, h1, h2, h3, _⟩ := h
  exact ⟨zs, h1, h2, h3⟩
theorem OwnD.nil (D T B : Nat) (w : World) : OwnD D T B w (.slice none 0 0) [] := ⟨[], rfl, fun z hz => (by cases hz), World.ownsRow_nil _ _ _ _, fun z hz => (by cases hz)⟩
theorem OwnD.below {D T B : Nat} {w w' : World} {v : Value} {al : List A} (h : OwnD D T B w v al) (hb : Below w.heap.size w w') : OwnD D T B w' v al := by
  obtain ⟨zs, h1, h2, h3, h4⟩ := h
  refine ⟨zs, h1, fun z hz => ⟨(h2 z hz).1.below hb, (h2 z hz).2⟩, ?_, h4⟩
  refine ⟨h3.1, ?_⟩
  rcases h3.2 with hn | ⟨g, cap, cur, rfl, hbb, hgg, rest⟩
  · exact .inl hn
  · refine .inr ⟨g, cap, cur, rfl, hbb, ?_, rest⟩
    rw [hb.block g (Array.getElem?_eq_some_iff.1 hgg).1]
    exact hgg
section
variable {P : Program} {w : World} {ops : Array Oper} {rest : List Oper} {o o1 o2 : Oper} {a : Act} {Q : Exit → Act → World → Prop}
/-- Append of attributes onto a list of the call's own; where their bytes lie in other blocks than the list. -/
theorem wpl_appendD (hgd : o.guard = none) (s x : Operand) (t : TypeId) (ho : o.op = .call { callee := .builtin .append, args := #[s, x], argTypes := #[t, t] })
    (D B e bytes : Nat) (i : TypeInfo) (z : Value) (ht : P.underlying t = some (.slice e)) (hi : P.info? e = some i) (hz : i.zero = some z) (hsize : i.size = 5) (hby : i.bytes = bytes) (hzs : z.cells.size = 5)
    (v : Value) (ad : Addr) (c : Nat) (al : List A) (ys : List (A × Value)) (hs : a.eval s = v) (hx : a.eval x = .slice (some ad) ys.length c) (hown : OwnD D e B w v al)
    (hnews : ∀ j u, (flat ys)[j]? = some u → w.cell? (ad.add j) = some u) (hd : ∀ y ∈ ys, Reads .u8 w y.2 y.1.data ∧ Apart v y ∧ From D y)
    (h63 : al.length + ys.length ≤ maxLen) (hbytes : (al.length + ys.length) * bytes ≤ 140737488355328) (hbase : B ≤ w.heap.size)
    (h : ∀ v' w', OwnD D e B w' v' (al ++ ys.map Prod.fst) → w.grownBy w' v.ownBlock → wpList P ops Q rest (a.put o.dst v') w') : wpList P ops Q (o :: rest) a w := by
  obtain ⟨zs, e1, e2, e3, e4⟩ := hown
  have hl : (flat ys).length = ys.length * 5 := flat_length ys
  have h1 := flat_one' (fun z hz => (hd z hz).1)
  refine wpList_plain hgd fun K hK => ?_
  obtain ⟨v', w', hr, k2, k3, k4⟩ := run_append_own (P := P) w B t o.type e i z 5 bytes ht hi hz hsize hby hzs (by omega) v al.length (flat zs) e3 ad ys.length c (flat ys) hl hnews h1 h63 hbytes hbase
  have hblk := append_block (P := P) ht hi hz hsize hby hzs (by omega) e3 hl hnews h1 h63 hbytes hr
  unfold Oper.wp execOp
  simp only [ho, resolve, invoke, builtin, Sem.run_bind, Sem.run_pure, Result.andThen_ok, List.map_toArray, List.map_cons, List.map_nil, hs, hx, hr]
  refine hK _ _ (h v' w' ⟨zs ++ ys, by rw [List.map_append, e1], ?_, ?_, fun z hz => (List.mem_append.1 hz).elim (e4 z) (fun hz => (hd z hz).2.2)⟩ k3)
  · have key : ∀ z : A × Value, Reads .u8 w z.2 z.1.data → Apart v z → Reads .u8 w' z.2 z.1.data ∧ Apart v' z := by
      intro z hz hap
      refine ⟨reads_grown hz k3 hap, fun h0 q hq => ?_⟩
      rcases hblk with hb | hb
      · exact hap h0 q (by rw [← hb]; exact hq)
      · obtain ⟨b, hb1, hb2⟩ := reads_lt hz h0
        rw [hb] at hq
        cases hq
        rw [hb1]
        intro e
        cases e
        exact absurd hb2 (Nat.lt_irrefl _)
    intro z hz
    rcases List.mem_append.1 hz with hz | hz
    · exact key z (e2 z hz).1 (e2 z hz).2
    · exact key z (hd z hz).1 (hd z hz).2.1
  · rw [flat_append]
    have : (al ++ ys.map Prod.fst).length = al.length + ys.length := by simp
    rw [this]
    exact k2
/-- One attribute more, behind a list of the call's own. -/
theorem wpl_pushD (S e bytes d1 : Nat) (x s : Operand) (g1 : o1.guard = none) (ho1 : o1.op = .buildSlice S 1 #[(0, x)]) (hd1 : o1.dst = some d1) (g2 : o2.guard = none) (ho2 : o2.op = .call { callee := .builtin .append, args := #[s, .tmp d1], argTypes := #[S, S] })
    (A : A) (d : Value) (hx : a.eval x = .agg (row A d).toArray) (hrun : ∀ w : World, (Instr.buildSlice S 1 #[(0, .agg (row A d).toArray)]).run P w = .ok (.slice (some ⟨w.heap.size, 0, none⟩) 1 1) (w.alloc (.cells (row A d).toArray e)))
    (D B : Nat) (i : TypeInfo) (z : Value) (ht : P.underlying S = some (.slice e)) (hi : P.info? e = some i) (hz : i.zero = some z) (hsize : i.size = 5) (hby : i.bytes = bytes) (hzs : z.cells.size = 5)
    (v : Value) (al : List Avps.A) (hs : ∀ u, (a.put (some d1) u).eval s = v) (hdv : ∀ u, (a.put (some d1) u).eval (.tmp d1) = u) (hown : OwnD D e B w v al)
    (hd : Reads .u8 w d A.data) (hap : Apart v (A, d)) (hfr : From D (A, d)) (h63 : al.length + 1 ≤ maxLen) (hbytes : (al.length + 1) * bytes ≤ 140737488355328) (hbase : B ≤ w.heap.size)
    (h : ∀ v' w', OwnD D e B w' v' (al ++ [A]) → w.grownBy w' v.ownBlock → wpList P ops Q rest ((a.put (some d1) (.slice (some ⟨w.heap.size, 0, none⟩) 1 1)).put o2.dst v') w') : wpList P ops Q (o1 :: o2 :: rest) a w := by
  refine wpList_plain g1 fun K hK => ?_
  unfold Oper.wp execOp
  have hp : (#[(0, x)] : Array (Nat × Operand)).map (fun (i, x) => (i, a.eval x)) = #[(0, .agg (row A d).toArray)] := by simp [hx]
  simp only [ho1, hp, Sem.run_bind, hrun w, Result.andThen_ok]
  refine hK _ _ ?_
  rw [hd1]
  have hal := (Below.refl w.heap.size w).alloc (Nat.le_refl _) (.cells (row A d).toArray e)
  have hat := At.new w e (row A d).toArray
  refine wpl_appendD g2 s (.tmp d1) S ho2 D B e bytes i z ht hi hz hsize hby hzs v ⟨w.heap.size, 0, none⟩ 1 al [(A, d)] (hs _) (hdv _) (hown.below hal) ?_ ?_ h63 hbytes (by simp; omega) ?_
  · intro j u hj
    rw [add_none, Nat.zero_add, hat.cell j, ← hj, flat_one]
    simp
  · intro y hy
    rw [List.mem_singleton] at hy
    subst hy
    exact ⟨hd.below hal, hap, hfr⟩
  · intro v' w' h1 h2
    exact h v' w' h1 (grown_trans (grown_below _ hal) h2)
/-- One list of the call's own behind another one. -/
theorem wpl_appendDD (hgd : o.guard = none) (s x : Operand) (t : TypeId) (ho : o.op = .call { callee := .builtin .append, args := #[s, x], argTypes := #[t, t] })
    (B e bytes : Nat) (i : TypeInfo) (z : Value) (ht : P.underlying t = some (.slice e)) (hi : P.info? e = some i) (hz : i.zero = some z) (hsize : i.size = 5) (hby : i.bytes = bytes) (hzs : z.cells.size = 5)
    (D B' : Nat) (v u : Value) (al bl : List A) (hs : a.eval s = v) (hx : a.eval x = u) (hown : OwnL e B w v al) (hr : OwnD D e B' w u bl) (hlt : ∀ q, v.ownBlock = some q → q < D)
    (h63 : al.length + bl.length ≤ maxLen) (hbytes : (al.length + bl.length) * bytes ≤ 140737488355328) (hbase : B ≤ w.heap.size)
    (h : ∀ v' w', OwnL e B w' v' (al ++ bl) → w.grownBy w' v.ownBlock → wpList P ops Q rest (a.put o.dst v') w') : wpList P ops Q (o :: rest) a w := by
  obtain ⟨zs, h1, h2, h3, h4⟩ := hr
  have hzl : zs.length = bl.length := by rw [← h1, List.length_map]
  have hcells := fun g hg => h3.cells (g := g) hg
  obtain ⟨_, ⟨rfl, hn⟩ | ⟨g, cap, cur, rfl, hb, hg, hle, hm, _⟩⟩ := h3
  · have hb0 : bl = [] := List.eq_nil_of_length_eq_zero hn
    subst hb0
    obtain ⟨ys, e1, e2, e3⟩ := id hown
    exact wpList_append_own_none hgd s x t ho B e i 5 ht hi v al.length (flat ys) hs e3 hx (h v w (by rw [List.append_nil]; exact hown) ⟨rfl, rfl, rfl, Nat.le_refl _, fun _ _ _ => rfl⟩)
  · have hx' : a.eval x = .slice (some ⟨g, 0, none⟩) zs.length cap := by rw [hx, hzl]
    rw [← hzl] at h63 hbytes
    refine wpl_appendL hgd s x t ho B e bytes i z ht hi hz hsize hby hzs v ⟨g, 0, none⟩ cap al zs hs hx' hown ?_ ?_ h63 hbytes hbase ?_
    · intro j q hj
      have hj' : j < (flat zs).length := (List.getElem?_eq_some_iff.1 hj).1
      have := hcells g rfl j _ (List.getElem?_eq_getElem hj')
      rw [this, ← hj, List.getElem?_eq_getElem hj']
    · intro y hy
      refine ⟨(h2 y hy).1, fun h0 q hq e => ?_⟩
      have a1 := h4 y hy h0 q e
      have a2 := hlt q hq
      omega
    · intro v' w' k1 k2
      rw [h1] at k1
      exact h v' w' k1 k2
end
end Go.Proofs.YtjfmahodbdianaaDoor.Avps
namespace Go.Proofs.YtjfmahodbdianaaDoor.Avp
open Go.RowKit Mem Cells Avps Wire Ops
set_option linter.unusedVariables false
set_option linter.unusedSimpArgs false
def OwnDs (w : World) (al : List A) (e : Ending) (w' : World) : Prop := ∃ v', e = .returned v' ∧ OwnD w.heap.size 35 w.heap.size w' v' al ∧ Below w.heap.size w w'
set_option maxRecDepth 100000 in
set_option maxHeartbeats 1600000 in
theorem ownD (v : Value) (al : List A) (w : World) (hr : ReadsL w v al) (hd : ∀ a ∈ al, a.data.length ≤ 140737488355328) : Calls Tryd.prog 11 #[v] w (OwnDs w (al.take 200)) := by
  obtain ⟨p, c, rfl, k1, k2⟩ := hr.shape
  have HR := Lib.hid hr
  have HD := Lib.hid hd
  clear hr hd
  go_enter Tryd.func11, Tryd.ntmps11
  go_wp2_with fail
  go_loopw [3, 4] (fun u i wr => ∃ k : Nat, i = .int .i64 k ∧ k ≤ al.length ∧ k ≤ 200 ∧ OwnD w.heap.size 35 w.heap.size wr u (al.take k) ∧ Below w.heap.size w wr) (fun _ i _ => al.length - (intOf i).toNat)
  case atStart => exact ⟨0, rfl, by omega, by omega, OwnD.nil _ _ _ _, Below.refl _ _⟩
  case round =>
    obtain ⟨k, rfl, hk, h200, hown, hbl⟩ := hrel
    by_cases hlt : k < al.length
    · by_cases hk200 : k < 200
      · obtain ⟨x, hx1, hx2, b, off, c', pd, nd, hv, _, _, hltb, hra, hrd⟩ := (HR.out.below hbl).elem k hlt
        cases hv
        obtain ⟨acc, hacc⟩ : ∃ acc, al.take k = acc := ⟨_, rfl⟩
        rw [hacc] at hown
        have hal : acc.length ≤ 200 := by rw [← hacc, List.length_take]; omega
        obtain ⟨pl, cl, rfl, q1, q2⟩ := hown.ownL.reads.shape
        have HA := Lib.hid hacc
        have HX := Lib.hid hx1
        have HRA := Lib.hid hra
        have hdx := HD.out x hx2
        have hwl := hbl.size
        have K1 : ([] : List Int).length + x.data.length ≤ maxLen := by simp [maxLen]; omega
        have K2 : (([] : List Int).length + x.data.length) * 1 ≤ 140737488355328 := by simp; omega
        have K4 : acc.length + 1 ≤ maxLen := by simp [maxLen]; omega
        have K5 : (acc.length + 1) * 40 ≤ 140737488355328 := by omega
        clear hacc hx1 hx2 hra
        go_wp2_with (first
          | (refine wpl_loadE rfl 35 (.tmp 18) rfl b (off + k * 5) rfl (row x (.slice pd x.data.length nd)).toArray _ HRA.out Tryd.underlying35 rfl (by kernel_rfl) ?_; clear HRA)
          | (refine wpl_allocAt rfl 35 rfl zeroRow (by kernel_rfl) ?_; intro w1 hat1 hb1 hs1)
          | (refine wpl_storeR rfl 35 (.tmp 5) (.tmp 19) rfl rfl wr.heap.size 35 zeroRow (row x (.slice pd x.data.length nd)).toArray rfl rfl hat1 (by kernel_rfl) rfl (by simp [row, Value.oneCell']) ?_; go_must (intro w2 hat2 hg2; have hb2 := hb1.grown hg2 hb1.size (fun q e => by cases e; exact Nat.le_refl _); have hlt2 := hat2.lt; clear hat1 hg2 hb1))
          | (refine wpl_empty rfl 32 5 rfl .u8 (fun _ => by kernel_rfl) ?_; go_must (intro w3 hown3 hb3 hs3; have hb3' := hb2.trans (hb3.mono hb2.size); have hat3 := hat2.ext hb3; have c4 := hat3.cell 4; simp [row] at c4; have hrd3 := hrd.below hb3'; clear hat2 hb2))
          | (at_builtin; have _t := hown3; clear _t; go_must (obtain ⟨i0, hi, hz0, hz1, hz2⟩ := info_parts info5; refine wpl_append rfl (.tmp 20) (.tmp 22) 32 rfl .u8 w2.heap.size 5 1 i0 (.int .u8 0) Tryd.underlying32 hi hz0 hz1 hz2 rfl (.slice (some ⟨w2.heap.size, 0, none⟩) 0 0) _ [] x.data rfl rfl hown3 hrd3 K1 K2 (by have := hb3.size; omega) ?_; intro v4 w4 hv4 hg4; rw [List.nil_append] at hv4; clear hi hz0 hz1 hz2; obtain ⟨p4, c4', rfl, kk1, kk2, kk3, kk4⟩ := hv4.reads; have hat4 := hat3.grown (k := w2.heap.size) hg4 (Nat.ne_of_lt hlt2); have hb4 := hb3'.grown hg4 hb3'.size (fun q e => by have e' : w2.heap.size = q := Option.some.inj e; omega); clear hown3 hrd3 hat3 hb3' hb3 c4 kk3 kk4 hg4))
          | (refine wpl_storeC rfl 32 (.tmp 24) (.tmp 23) rfl rfl wr.heap.size 4 35 (row x (.slice pd x.data.length nd)).toArray (row x (.slice p4 x.data.length c4')).toArray (.slice p4 x.data.length c4') rfl rfl hat4 (show (4 : Nat) < 5 by decide) (by kernel_rfl) rfl rfl ?_; go_must (intro w5 hat5 hg5; have hb5 := hb4.grown hg5 hb4.size (fun q e => by cases e; exact Nat.le_refl _); have hd5 := reads_grown hv4.reads hg5 (fun h0 q hq e => by obtain ⟨g', e1, _, e2, _⟩ := hv4.form h0; rw [e1] at e; have e3 : g' = q := Option.some.inj e; have e4 : wr.heap.size = q := Option.some.inj hq; omega); have hap5 : Apart (.slice pl acc.length cl) (x, .slice p4 x.data.length c4') := (fun h0 q hq e => by obtain ⟨g', e1, _, e2, _⟩ := hv4.form h0; have h1 := (hown.ownL.lt q hq).2; rw [show (x, Value.slice p4 x.data.length c4').2 = .slice p4 x.data.length c4' from rfl, e1] at e; have e3 : g' = q := Option.some.inj e; omega); have hfr5 : From w.heap.size (x, .slice p4 x.data.length c4') := (fun h0 q hq => by obtain ⟨g', e1, _, e2, _⟩ := hv4.form h0; rw [show (x, Value.slice p4 x.data.length c4').2 = .slice p4 x.data.length c4' from rfl, e1] at hq; have e3 : g' = q := Option.some.inj hq; omega); have hown5 := hown.below hb5; clear hat4 hb4 hv4 hg5))
          | (refine wpList_load_row rfl 35 (.tmp 5) rfl wr.heap.size rfl 35 (row x (.slice p4 x.data.length c4')).toArray _ _ hat5 Tryd.underlying35 rfl (by kernel_rfl) ?_)
          | (obtain ⟨i41, z41, i1, i2, i3, i4, i5⟩ := info41; refine wpl_pushD 23 35 40 27 (.tmp 26) (.tmp 25) rfl rfl rfl rfl rfl x (.slice p4 x.data.length c4') rfl (build22 _ _) w.heap.size w.heap.size i41 z41 Tryd.underlying23 i1 i2 i3 i4 i5 (.slice pl acc.length cl) acc (fun _ => rfl) (fun _ => rfl) hown5 hd5 hap5 hfr5 K4 K5 (by have := hb5.size; omega) ?_; go_must (clear i1 i2 i3 i4 i5; intro v6 w6 hv6 hg6; have hbl6 := (hbl.trans (hb5.mono hbl.size)).grown hg6 (by have := hb5.size; omega) (fun q e => (hown5.ownL.lt q e).1); clear hown5 hd5 hap5 hfr5 hat5 hg6)))
        go_roundw
        case rel => exact ⟨k + 1, by go_num, by omega, by omega, by rw [List.take_succ_eq_append_getElem hlt, HA.out]; rw [List.getElem?_eq_getElem hlt] at HX; rw [Option.some.inj HX.out]; exact hv6, hbl6⟩
        case measure => simp [intOf]; omega
      · obtain rfl : k = 200 := by omega
        go_wp2_with fail
        go_ret
        exact ⟨_, rfl, hown, hbl⟩
    · have hk2 : al.length = k := by omega
      have e : al.take k = al.take 200 := by rw [List.take_of_length_le (by omega), List.take_of_length_le (by omega)]
      rw [e] at hown
      clear e
      obtain rfl := hk2
      go_wp2_with fail
      go_ret
      exact ⟨_, rfl, hown, hbl⟩
end Go.Proofs.YtjfmahodbdianaaDoor.Avp
