/-
  Get, whose attributes' bytes lie in blocks made by the call (OwnD). Turned from Get2's walk.
-/
import Derived.Test.YtjfponhdlfhmbaaPlain2
import Derived.Test.YtjfponhdlfhmbaaLaws1
import Derived.Laws.AppendOwnNone
namespace Go.Proofs.Ytjfponhdlfhmbaa.Avps
open Go.RowKit Mem Cells
set_option linter.unusedVariables false
/-- The bytes of z lie in blocks from D on. -/
def From (D : Nat) (z : A × Value) : Prop := 0 < z.1.data.length → ∀ q, z.2.ownBlock = some q → D ≤ q
def OwnD (D T B : Nat) (w : World) (v : Value) (al : List A) : Prop :=
  ∃ zs : List (A × Value), zs.map Prod.fst = al ∧ (∀ z ∈ zs, Reads .u8 w z.2 z.1.data ∧ Apart v z) ∧ w.ownsRow B T 5 v al.length (flat zs) ∧ ∀ z ∈ zs, From D z
theorem OwnD.ownL {D T B : Nat} {w : World} {v : Value} {al : List A} (h : OwnD D T B w v al) : OwnL T B w v al := by
  obtain ⟨zs, h1, h2, h3, _⟩ := h
  exact ⟨zs, h1, h2, h3⟩
theorem OwnD.nil (D T B : Nat) (w : World) : OwnD D T B w (.slice none 0 0) [] := ⟨[], rfl, fun z hz => (by cases hz), World.ownsRow_nil _ _ _ _, fun z hz => (by cases hz)⟩
theorem OwnD.below {D T B : Nat} {w w' : World} {v : Value} {al : List A} (h : OwnD D T B w v al) (hb : Below w.heap.size w w') : OwnD D T B w' v al := by
  obtain ⟨zs, h1, h2, h3, h4⟩ := h
  refine ⟨zs, h1, fun z hz => ⟨(h2 z hz).1.below hb, (h2 z hz).2⟩, ?_, h4⟩
  refine ⟨h3.1, ?_⟩
  rcases h3.2 with hn | ⟨g, cap, cur, rfl, hbb, hgg, rest⟩
  · exact .inl hn
  · refine .inr ⟨g, cap, cur, rfl, hbb, ?_, rest⟩
    rw [hb.block g (Array.getElem?_eq_some_iff.1 hgg).1]
    exact hgg
section
variable {P : Program} {w : World} {ops : Array Oper} {rest : List Oper} {o o1 o2 : Oper} {a : Act} {Q : Exit → Act → World → Prop}
/-- Append of attributes onto a list of the call's own; where their bytes lie in other blocks than the list. -/
theorem wpl_appendD (hgd : o.guard = none) (s x : Operand) (t : TypeId) (ho : o.op = .call { callee := .builtin .append, args := #[s, x], argTypes := #[t, t] })
    (D B e bytes : Nat) (i : TypeInfo) (z : Value) (ht : P.underlying t = some (.slice e)) (hi : P.info? e = some i) (hz : i.zero = some z) (hsize : i.size = 5) (hby : i.bytes = bytes) (hzs : z.cells.size = 5)
    (v : Value) (ad : Addr) (c : Nat) (al : List A) (ys : List (A × Value)) (hs : a.eval s = v) (hx : a.eval x = .slice (some ad) ys.length c) (hown : OwnD D e B w v al)
    (hnews : ∀ j u, (flat ys)[j]? = some u → w.cell? (ad.add j) = some u) (hd : ∀ y ∈ ys, Reads .u8 w y.2 y.1.data ∧ Apart v y ∧ From D y)
    (h63 : al.length + ys.length ≤ maxLen) (hbytes : (al.length + ys.length) * bytes ≤ 140737488355328) (hbase : B ≤ w.heap.size)
    (h : ∀ v' w', OwnD D e B w' v' (al ++ ys.map Prod.fst) → w.grownBy w' v.ownBlock → wpList P ops Q rest (a.put o.dst v') w') : wpList P ops Q (o :: rest) a w := by
  obtain ⟨zs, e1, e2, e3, e4⟩ := hown
  have hl : (flat ys).length = ys.length * 5 := flat_length ys
  have h1 := flat_one' (fun z hz => (hd z hz).1)
  refine wpList_plain hgd fun K hK => ?_
  obtain ⟨v', w', hr, k2, k3, k4⟩ := run_append_own (P := P) w B t o.type e i z 5 bytes ht hi hz hsize hby hzs (by omega) v al.length (flat zs) e3 ad ys.length c (flat ys) hl hnews h1 h63 hbytes hbase
  have hblk := append_block (P := P) ht hi hz hsize hby hzs (by omega) e3 hl hnews h1 h63 hbytes hr
  unfold Oper.wp execOp
  simp only [ho, resolve, invoke, builtin, Sem.run_bind, Sem.run_pure, Result.andThen_ok, List.map_toArray, List.map_cons, List.map_nil, hs, hx, hr]
  refine hK _ _ (h v' w' ⟨zs ++ ys, by rw [List.map_append, e1], ?_, ?_, fun z hz => (List.mem_append.1 hz).elim (e4 z) (fun hz => (hd z hz).2.2)⟩ k3)
  · have key : ∀ z : A × Value, Reads .u8 w z.2 z.1.data → Apart v z → Reads .u8 w' z.2 z.1.data ∧ Apart v' z := by
      intro z hz hap
      refine ⟨reads_grown hz k3 hap, fun h0 q hq => ?_⟩
      rcases hblk with hb | hb
      · exact hap h0 q (by rw [← hb]; exact hq)
      · obtain ⟨b, hb1, hb2⟩ := reads_lt hz h0
        rw [hb] at hq
        cases hq
        rw [hb1]
        intro e
        cases e
        exact absurd hb2 (Nat.lt_irrefl _)
    intro z hz
    rcases List.mem_append.1 hz with hz | hz
    · exact key z (e2 z hz).1 (e2 z hz).2
    · exact key z (hd z hz).1 (hd z hz).2.1
  · rw [flat_append]
    have : (al ++ ys.map Prod.fst).length = al.length + ys.length := by simp
    rw [this]
    exact k2
/-- One attribute more, behind a list of the call's own. -/
theorem wpl_pushD (S e bytes d1 : Nat) (x s : Operand) (g1 : o1.guard = none) (ho1 : o1.op = .buildSlice S 1 #[(0, x)]) (hd1 : o1.dst = some d1) (g2 : o2.guard = none) (ho2 : o2.op = .call { callee := .builtin .append, args := #[s, .tmp d1], argTypes := #[S, S] })
    (A : A) (d : Value) (hx : a.eval x = .agg (row A d).toArray) (hrun : ∀ w : World, (Instr.buildSlice S 1 #[(0, .agg (row A d).toArray)]).run P w = .ok (.slice (some ⟨w.heap.size, 0, none⟩) 1 1) (w.alloc (.cells (row A d).toArray e)))
    (D B : Nat) (i : TypeInfo) (z : Value) (ht : P.underlying S = some (.slice e)) (hi : P.info? e = some i) (hz : i.zero = some z) (hsize : i.size = 5) (hby : i.bytes = bytes) (hzs : z.cells.size = 5)
    (v : Value) (al : List Avps.A) (hs : ∀ u, (a.put (some d1) u).eval s = v) (hdv : ∀ u, (a.put (some d1) u).eval (.tmp d1) = u) (hown : OwnD D e B w v al)
    (hd : Reads .u8 w d A.data) (hap : Apart v (A, d)) (hfr : From D (A, d)) (h63 : al.length + 1 ≤ maxLen) (hbytes : (al.length + 1) * bytes ≤ 140737488355328) (hbase : B ≤ w.heap.size)
    (h : ∀ v' w', OwnD D e B w' v' (al ++ [A]) → w.grownBy w' v.ownBlock → wpList P ops Q rest ((a.put (some d1) (.slice (some ⟨w.heap.size, 0, none⟩) 1 1)).put o2.dst v') w') : wpList P ops Q (o1 :: o2 :: rest) a w := by
  refine wpList_plain g1 fun K hK => ?_
  unfold Oper.wp execOp
  have hp : (#[(0, x)] : Array (Nat × Operand)).map (fun (i, x) => (i, a.eval x)) = #[(0, .agg (row A d).toArray)] := by simp [hx]
  simp only [ho1, hp, Sem.run_bind, hrun w, Result.andThen_ok]
  refine hK _ _ ?_
  rw [hd1]
  have hal := (Below.refl w.heap.size w).alloc (Nat.le_refl _) (.cells (row A d).toArray e)
  have hat := At.new w e (row A d).toArray
  refine wpl_appendD g2 s (.tmp d1) S ho2 D B e bytes i z ht hi hz hsize hby hzs v ⟨w.heap.size, 0, none⟩ 1 al [(A, d)] (hs _) (hdv _) (hown.below hal) ?_ ?_ h63 hbytes (by simp; omega) ?_
  · intro j u hj
    rw [add_none, Nat.zero_add, hat.cell j, ← hj, flat_one]
    simp
  · intro y hy
    rw [List.mem_singleton] at hy
    subst hy
    exact ⟨hd.below hal, hap, hfr⟩
  · intro v' w' h1 h2
    exact h v' w' h1 (grown_trans (grown_below _ hal) h2)
/-- One list of the call's own behind another one. -/
theorem wpl_appendDD (hgd : o.guard = none) (s x : Operand) (t : TypeId) (ho : o.op = .call { callee := .builtin .append, args := #[s, x], argTypes := #[t, t] })
    (B e bytes : Nat) (i : TypeInfo) (z : Value) (ht : P.underlying t = some (.slice e)) (hi : P.info? e = some i) (hz : i.zero = some z) (hsize : i.size = 5) (hby : i.bytes = bytes) (hzs : z.cells.size = 5)
    (D B' : Nat) (v u : Value) (al bl : List A) (hs : a.eval s = v) (hx : a.eval x = u) (hown : OwnL e B w v al) (hr : OwnD D e B' w u bl) (hlt : ∀ q, v.ownBlock = some q → q < D)
    (h63 : al.length + bl.length ≤ maxLen) (hbytes : (al.length + bl.length) * bytes ≤ 140737488355328) (hbase : B ≤ w.heap.size)
    (h : ∀ v' w', OwnL e B w' v' (al ++ bl) → w.grownBy w' v.ownBlock → wpList P ops Q rest (a.put o.dst v') w') : wpList P ops Q (o :: rest) a w := by
  obtain ⟨zs, h1, h2, h3, h4⟩ := hr
  have hzl : zs.length = bl.length := by rw [← h1, List.length_map]
  have hcells := fun g hg => h3.cells (g := g) hg
  obtain ⟨_, ⟨rfl, hn⟩ | ⟨g, cap, cur, rfl, hb, hg, hle, hm, _⟩⟩ := h3
  · have hb0 : bl = [] := List.eq_nil_of_length_eq_zero hn
    subst hb0
    obtain ⟨ys, e1, e2, e3⟩ := id hown
    exact wpList_append_own_none hgd s x t ho B e i 5 ht hi v al.length (flat ys) hs e3 hx (h v w (by rw [List.append_nil]; exact hown) ⟨rfl, rfl, rfl, Nat.le_refl _, fun _ _ _ => rfl⟩)
  · have hx' : a.eval x = .slice (some ⟨g, 0, none⟩) zs.length cap := by rw [hx, hzl]
    rw [← hzl] at h63 hbytes
    refine wpl_appendL hgd s x t ho B e bytes i z ht hi hz hsize hby hzs v ⟨g, 0, none⟩ cap al zs hs hx' hown ?_ ?_ h63 hbytes hbase ?_
    · intro j q hj
      have hj' : j < (flat zs).length := (List.getElem?_eq_some_iff.1 hj).1
      have := hcells g rfl j _ (List.getElem?_eq_getElem hj')
      rw [this, ← hj, List.getElem?_eq_getElem hj']
    · intro y hy
      refine ⟨(h2 y hy).1, fun h0 q hq e => ?_⟩
      have a1 := h4 y hy h0 q e
      have a2 := hlt q hq
      omega
    · intro v' w' k1 k2
      rw [h1] at k1
      exact h v' w' k1 k2
end
end Go.Proofs.Ytjfponhdlfhmbaa.Avps
namespace Go.Proofs.Ytjfponhdlfhmbaa.Avp
open Go.RowKit Mem Cells Avps Wire
set_option linter.unusedVariables false
set_option linter.unusedSimpArgs false

/-- What Get answers. -/
def GetDs (w : World) (R : List A × Int × Int) (e : Ending) (w' : World) : Prop :=
  ∃ v', e = .returned (.tuple #[v', .int .i64 R.2.1, .int .i64 R.2.2]) ∧ OwnD w.heap.size 41 w.heap.size w' v' R.1 ∧ Below w.heap.size w w'
set_option maxHeartbeats 3200000 in
theorem avpGetD (v : Value) (xs : List Int) (w : World) (hr : Reads .u8 w v xs) (hwf : ∀ x ∈ xs, 0 ≤ x ∧ x ≤ 255) : Calls Try.prog 12 #[v] w (GetDs w (getOf xs)) := by
  obtain ⟨p, c, rfl, k1, k2, k3, _⟩ := id hr
  by_cases hbig : 4096 < xs.length
  · have e1 : getOf xs = ([], 0, 4) := by unfold getOf; rw [if_pos hbig]
    rw [e1]
    clear hr hwf
    go_enter Try.func12, Try.ntmps12
    go_wp2
    go_ret3
    exact ⟨_, rfl, OwnD.nil _ _ _ _, Below.refl _ _⟩
  · obtain ⟨R, hR⟩ : ∃ R, getOf xs = R := ⟨_, rfl⟩
    rw [hR]
    have hR2 : getF xs xs.length 0 [] = R := by rw [← hR]; unfold getOf; rw [if_neg hbig]
    clear hR
    have HR := Lib.hid hr
    have HW := Lib.hid hwf
    have HR2 := Lib.hid hR2
    clear hr hwf hR2
    go_enter Try.func12, Try.ntmps12
    go_wp2_with fail
    go_loopw [2, 3] (fun u i wr => ∃ (at_ f : Nat) (acc : List A), i = .int .i64 at_ ∧ at_ ≤ xs.length ∧ acc.length ≤ 64 ∧ OwnD w.heap.size 41 w.heap.size wr u acc ∧ Below w.heap.size w wr ∧ Hid (getF xs f at_ acc = R ∧ xs.length ≤ at_ + f)) (fun _ i _ => xs.length - (intOf i).toNat)
    case atStart => exact ⟨0, xs.length, [], rfl, by omega, by simp, OwnD.nil _ _ _ _, Below.refl _ _, Lib.hid ⟨HR2.out, by omega⟩⟩
    case round =>
      obtain ⟨at_, f, acc, rfl, hat, h64, hown, hbl, HF⟩ := hrel
      obtain ⟨pl, cl, zl, rfl, q1, q2, _, _, _, _⟩ := hown.ownL.reads
      by_cases hlt : at_ < xs.length
      · by_cases h64' : acc.length < 64
        · have hs := (HR.out.below hbl).sub at_ (xs.length - at_) (by omega)
          rw [show (xs.drop at_).take (xs.length - at_) = xs.drop at_ from List.take_of_length_le (by simp)] at hs
          have PF := Lib.hid (first _ (xs.drop at_) wr hs (fun x hx => HW.out x (List.mem_of_mem_drop hx)) (by simp; omega))
          clear hs
          have hci : at_ < c := by omega
          go_wp2_with fail
          refine PF.out.mono ?_
          rintro e w1 ⟨d, rfl, hd, hdb, hb1⟩
          obtain ⟨y, hy⟩ : ∃ y, xs.drop at_ = y := ⟨_, rfl⟩
          rw [hy] at hd hdb
          have HY := Lib.hid hy
          rw [hy]
          clear hy PF
          obtain ⟨E, hE⟩ : ∃ E, oneE y = E := ⟨_, rfl⟩
          obtain ⟨n, hn⟩ : ∃ n, oneN y = n := ⟨_, rfl⟩
          obtain ⟨a, ha⟩ : ∃ a, oneA y = a := ⟨_, rfl⟩
          rw [ha] at hd hdb
          rw [hE, hn, ha]
          have hbl1 := hbl.trans (hb1.mono hbl.size)
          have hown1 := hown.below hb1
          obtain ⟨pd, cd, rfl, _, _, _, _⟩ := id hd
          have hlw := hbl.size
          have hn0 : E = 0 → 8 ≤ n ∧ n ≤ 4096 ∧ (at_ : Int) + n ≤ xs.length := fun h0 => by
            have h1 := oneN_ge (hE.trans h0)
            have h2 : y.length = xs.length - at_ := by rw [← HY.out]; simp
            omega
          have HE := Lib.hid hE
          have HN := Lib.hid hn
          have HA := Lib.hid ha
          have er : (row a (.slice pd a.data.length cd)).toArray = #[.int .u32 a.code, .int .u32 a.vendor, .bool a.must, .bool a.prot, .slice pd a.data.length cd] := rfl
          rw [er]
          have h1 := At.new w1 41 zeroRow
          have hba := (Below.refl w1.heap.size w1).alloc (Nat.le_refl _) (.cells zeroRow 41)
          have hbb := below_setRow hba (Nat.le_refl w1.heap.size) #[.int .u32 a.code, .int .u32 a.vendor, .bool a.must, .bool a.prot, .slice pd a.data.length cd]
          have h2 := h1.row (ds := #[.int .u32 a.code, .int .u32 a.vendor, .bool a.must, .bool a.prot, .slice pd a.data.length cd])
          clear hE hn ha
          by_cases hE0 : E = 0
          · obtain ⟨n1, n2, n3⟩ := hn0 hE0
            subst hE0
            obtain ⟨i41, z41, i1, i2, i3, i4, i5⟩ := info41
            have hd2 := hd.below hbb
            have hown2 := hown1.below hbb
            have hbl2 := hbl1.trans (hbb.mono hbl1.size)
            have hap : Apart (.slice pl acc.length cl) (a, .slice pd a.data.length cd) := fun h0 q hq e => by
              obtain ⟨k, e', hk⟩ := hdb h0
              have h1 := (hown.ownL.lt q hq).2
              rw [e'] at e
              cases e
              omega
            have hws : wr.heap.size ≤ w1.heap.size := hb1.size
            have hfrm : From w.heap.size (a, .slice pd a.data.length cd) := fun h0 q hq => by
              obtain ⟨k, e', hk⟩ := hdb h0
              have hq2 : (Value.slice pd a.data.length cd).ownBlock = some q := hq
              rw [e'] at hq2
              cases hq2
              omega
            clear hown hown1 hd hbl1 hb1 hbl
            go_wp2_with (first
              | (refine wpList_store_row rfl 41 _ _ rfl w1.heap.size _ rfl rfl 41 _ h1 (by kernel_rfl) rfl (by simp [Value.oneCell']) ?_; generalize (w1.alloc (.cells zeroRow 41)).setRow w1.heap.size #[.int .u32 a.code, .int .u32 a.vendor, .bool a.must, .bool a.prot, .slice pd a.data.length cd] = u2 at hbb h2 hd2 hown2 hbl2
                 have hal := (Below.refl u2.heap.size u2).alloc (Nat.le_refl _) (.cells #[.int .u32 a.code, .int .u32 a.vendor, .bool a.must, .bool a.prot, .slice pd a.data.length cd] 41)
                 have hown3 := hown2.below hal
                 have hd3 := hd2.below hal
                 have hbl3 := hbl2.trans (hal.mono hbl2.size)
                 have hat3 := At.new u2 41 #[.int .u32 a.code, .int .u32 a.vendor, .bool a.must, .bool a.prot, .slice pd a.data.length cd]
                 have hnews : ∀ j u, (flat [(a, .slice pd a.data.length cd)])[j]? = some u → (u2.alloc (.cells #[.int .u32 a.code, .int .u32 a.vendor, .bool a.must, .bool a.prot, .slice pd a.data.length cd] 41)).cell? ((⟨u2.heap.size, 0, none⟩ : Addr).add j) = some u := by
                   intro j u hj
                   rw [add_none, Nat.zero_add, hat3.cell j, ← hj, flat_one]
                   simp [row]
                 have hdd : ∀ y ∈ [(a, Value.slice pd a.data.length cd)], Reads .u8 (u2.alloc (.cells #[.int .u32 a.code, .int .u32 a.vendor, .bool a.must, .bool a.prot, .slice pd a.data.length cd] 41)) y.2 y.1.data ∧ Apart (.slice pl acc.length cl) y ∧ From w.heap.size y := by
                   intro y hy
                   rw [List.mem_singleton] at hy
                   subst hy
                   exact ⟨hd3, hap, hfrm⟩
                 have K1 : acc.length + [(a, Value.slice pd a.data.length cd)].length ≤ maxLen := by simp [maxLen]; omega
                 have K2 : (acc.length + [(a, Value.slice pd a.data.length cd)].length) * 40 ≤ 140737488355328 := by simp; omega
                 have K3 := hbl3.size
                 have hol := fun k e => (hown3.ownL.lt k e).1
                 clear hown2 hd2 hat3 hal)
              | (refine wpList_load_row rfl 41 (.tmp 5) rfl w1.heap.size rfl 41 _ _ _ h2 Try.underlying41 rfl (by kernel_rfl) ?_)
              | (at_builtin; refine wpl_appendD rfl _ _ 22 rfl w.heap.size w.heap.size 41 40 i41 z41 Try.underlying22 i1 i2 i3 i4 i5 (.slice pl acc.length cl) ⟨u2.heap.size, 0, none⟩ 1 acc [(a, .slice pd a.data.length cd)] rfl rfl hown3 hnews hdd K1 K2 K3 ?_; intro v' w' hv' hg'; clear hown3 hnews hdd hd3))
            obtain ⟨f', hf1, hf2⟩ := getF_go HF.out.2 hlt h64' (by rw [HY.out, HE.out])
            rw [HY.out, HN.out] at hf1
            rw [HY.out, HN.out, HA.out] at hf2
            refine ⟨⟨at_ + n.toNat, f', acc ++ [a], by congr 1; omega, by omega, by simp; omega, hv', hbl3.grown hg' hbl3.size hol, Lib.hid ⟨hf2.symm.trans HF.out.1, hf1⟩⟩, by simp only [intOf]; omega⟩
          · have hne : (E != 0) = true := by simpa using hE0
            go_wp2_with (refine wpList_store_row rfl 41 _ _ rfl w1.heap.size _ rfl rfl 41 _ h1 (by kernel_rfl) rfl (by simp [Value.oneCell']) ?_)
            go_ret3
            have hRR : R = ([], (at_ : Int), E) := by
              rw [← HF.out.1, getF_bad HF.out.2 hlt h64' (by rw [HY.out, HE.out]; exact hE0), HY.out, HE.out]
            rw [hRR]
            exact ⟨_, rfl, OwnD.nil _ _ _ _, hbl1.trans (hbb.mono hbl1.size)⟩
        · obtain h64e : acc.length = 64 := by omega
          have hge : (64 : Int) ≤ acc.length := by omega
          go_wp2_with fail
          go_ret3
          have hRR : R = ([], (at_ : Int), 4) := by rw [← HF.out.1, getF_full HF.out.2 hlt (by omega)]
          rw [hRR]
          exact ⟨_, rfl, OwnD.nil _ _ _ _, hbl⟩
      · obtain rfl : at_ = xs.length := by omega
        go_wp2_with fail
        go_ret3
        have hRR : R = (acc, 0, 0) := by rw [← HF.out.1, getF_end (by omega)]
        rw [hRR]
        exact ⟨_, rfl, hown, hbl⟩
end Go.Proofs.Ytjfponhdlfhmbaa.Avp
