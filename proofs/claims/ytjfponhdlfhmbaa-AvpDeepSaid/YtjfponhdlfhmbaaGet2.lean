/-
  avp.Get: the walk.
-/
import Derived.Test.YtjfponhdlfhmbaaGet1
import Derived.OwnWalk
namespace Go.Proofs.Ytjfponhdlfhmbaa.Avp
open Go.RowKit Mem Cells Avps Wire
set_option linter.unusedVariables false
set_option linter.unusedSimpArgs false

/-- What Get answers. -/
def GetIs (w : World) (R : List A × Int × Int) (e : Ending) (w' : World) : Prop :=
  ∃ v', e = .returned (.tuple #[v', .int .i64 R.2.1, .int .i64 R.2.2]) ∧ OwnL 41 w.heap.size w' v' R.1 ∧ Below w.heap.size w w'
theorem info41 : ∃ i z, Try.prog.info? 41 = some i ∧ i.zero = some z ∧ i.size = 5 ∧ i.bytes = 40 ∧ z.cells.size = 5 := by
  have h : (Try.prog.info? 41).map (fun i => (i.zero.map (fun z => z.cells.size), i.size, i.bytes)) = some (some 5, 5, 40) := by kernel_rfl
  cases hi : Try.prog.info? 41 with
  | none => rw [hi] at h; cases h
  | some i =>
    rw [hi] at h
    simp only [Option.map_some, Option.some.injEq, Prod.mk.injEq] at h
    obtain ⟨h1, h2, h3⟩ := h
    cases hz : i.zero with
    | none => rw [hz] at h1; cases h1
    | some z => exact ⟨i, z, rfl, hz, h2, h3, by rw [hz] at h1; simpa using h1⟩

set_option maxHeartbeats 3200000 in
theorem avpGet (v : Value) (xs : List Int) (w : World) (hr : Reads .u8 w v xs) (hwf : ∀ x ∈ xs, 0 ≤ x ∧ x ≤ 255) : Calls Try.prog 12 #[v] w (GetIs w (getOf xs)) := by
  obtain ⟨p, c, rfl, k1, k2, k3, _⟩ := id hr
  by_cases hbig : 4096 < xs.length
  · have e1 : getOf xs = ([], 0, 4) := by unfold getOf; rw [if_pos hbig]
    rw [e1]
    clear hr hwf
    go_enter Try.func12, Try.ntmps12
    go_wp2
    go_ret3
    exact ⟨_, rfl, OwnL.nil _ _ _, Below.refl _ _⟩
  · obtain ⟨R, hR⟩ : ∃ R, getOf xs = R := ⟨_, rfl⟩
    rw [hR]
    have hR2 : getF xs xs.length 0 [] = R := by rw [← hR]; unfold getOf; rw [if_neg hbig]
    clear hR
    have HR := Lib.hid hr
    have HW := Lib.hid hwf
    have HR2 := Lib.hid hR2
    clear hr hwf hR2
    go_enter Try.func12, Try.ntmps12
    go_wp2_with fail
    go_loopw [2, 3] (fun u i wr => ∃ (at_ f : Nat) (acc : List A), i = .int .i64 at_ ∧ at_ ≤ xs.length ∧ acc.length ≤ 64 ∧ OwnL 41 w.heap.size wr u acc ∧ Below w.heap.size w wr ∧ Hid (getF xs f at_ acc = R ∧ xs.length ≤ at_ + f)) (fun _ i _ => xs.length - (intOf i).toNat)
    case atStart => exact ⟨0, xs.length, [], rfl, by omega, by simp, OwnL.nil _ _ _, Below.refl _ _, Lib.hid ⟨HR2.out, by omega⟩⟩
    case round =>
      obtain ⟨at_, f, acc, rfl, hat, h64, hown, hbl, HF⟩ := hrel
      obtain ⟨pl, cl, zl, rfl, q1, q2, _, _, _, _⟩ := hown.reads
      by_cases hlt : at_ < xs.length
      · by_cases h64' : acc.length < 64
        · have hs := (HR.out.below hbl).sub at_ (xs.length - at_) (by omega)
          rw [show (xs.drop at_).take (xs.length - at_) = xs.drop at_ from List.take_of_length_le (by simp)] at hs
          have PF := Lib.hid (first _ (xs.drop at_) wr hs (fun x hx => HW.out x (List.mem_of_mem_drop hx)) (by simp; omega))
          clear hs
          have hci : at_ < c := by omega
          go_wp2_with fail
          refine PF.out.mono ?_
          rintro e w1 ⟨d, rfl, hd, hdb, hb1⟩
          obtain ⟨y, hy⟩ : ∃ y, xs.drop at_ = y := ⟨_, rfl⟩
          rw [hy] at hd hdb
          have HY := Lib.hid hy
          rw [hy]
          clear hy PF
          obtain ⟨E, hE⟩ : ∃ E, oneE y = E := ⟨_, rfl⟩
          obtain ⟨n, hn⟩ : ∃ n, oneN y = n := ⟨_, rfl⟩
          obtain ⟨a, ha⟩ : ∃ a, oneA y = a := ⟨_, rfl⟩
          rw [ha] at hd hdb
          rw [hE, hn, ha]
          have hbl1 := hbl.trans (hb1.mono hbl.size)
          have hown1 := hown.below hb1
          obtain ⟨pd, cd, rfl, _, _, _, _⟩ := id hd
          have hlw := hbl.size
          have hn0 : E = 0 → 8 ≤ n ∧ n ≤ 4096 ∧ (at_ : Int) + n ≤ xs.length := fun h0 => by
            have h1 := oneN_ge (hE.trans h0)
            have h2 : y.length = xs.length - at_ := by rw [← HY.out]; simp
            omega
          have HE := Lib.hid hE
          have HN := Lib.hid hn
          have HA := Lib.hid ha
          have er : (row a (.slice pd a.data.length cd)).toArray = #[.int .u32 a.code, .int .u32 a.vendor, .bool a.must, .bool a.prot, .slice pd a.data.length cd] := rfl
          rw [er]
          have h1 := At.new w1 41 zeroRow
          have hba := (Below.refl w1.heap.size w1).alloc (Nat.le_refl _) (.cells zeroRow 41)
          have hbb := below_setRow hba (Nat.le_refl w1.heap.size) #[.int .u32 a.code, .int .u32 a.vendor, .bool a.must, .bool a.prot, .slice pd a.data.length cd]
          have h2 := h1.row (ds := #[.int .u32 a.code, .int .u32 a.vendor, .bool a.must, .bool a.prot, .slice pd a.data.length cd])
          clear hE hn ha
          by_cases hE0 : E = 0
          · obtain ⟨n1, n2, n3⟩ := hn0 hE0
            subst hE0
            obtain ⟨i41, z41, i1, i2, i3, i4, i5⟩ := info41
            have hd2 := hd.below hbb
            have hown2 := hown1.below hbb
            have hbl2 := hbl1.trans (hbb.mono hbl1.size)
            have hap : Apart (.slice pl acc.length cl) (a, .slice pd a.data.length cd) := fun h0 q hq e => by
              obtain ⟨k, e', hk⟩ := hdb h0
              have h1 := (hown.lt q hq).2
              rw [e'] at e
              cases e
              omega
            have hws : wr.heap.size ≤ w1.heap.size := hb1.size
            clear hown hown1 hd hbl1 hb1 hbl
            go_wp2_with (first
              | (refine wpList_store_row rfl 41 _ _ rfl w1.heap.size _ rfl rfl 41 _ h1 (by kernel_rfl) rfl (by simp [Value.oneCell']) ?_; generalize (w1.alloc (.cells zeroRow 41)).setRow w1.heap.size #[.int .u32 a.code, .int .u32 a.vendor, .bool a.must, .bool a.prot, .slice pd a.data.length cd] = u2 at hbb h2 hd2 hown2 hbl2
                 have hal := (Below.refl u2.heap.size u2).alloc (Nat.le_refl _) (.cells #[.int .u32 a.code, .int .u32 a.vendor, .bool a.must, .bool a.prot, .slice pd a.data.length cd] 41)
                 have hown3 := hown2.below hal
                 have hd3 := hd2.below hal
                 have hbl3 := hbl2.trans (hal.mono hbl2.size)
                 have hat3 := At.new u2 41 #[.int .u32 a.code, .int .u32 a.vendor, .bool a.must, .bool a.prot, .slice pd a.data.length cd]
                 have hnews : ∀ j u, (flat [(a, .slice pd a.data.length cd)])[j]? = some u → (u2.alloc (.cells #[.int .u32 a.code, .int .u32 a.vendor, .bool a.must, .bool a.prot, .slice pd a.data.length cd] 41)).cell? ((⟨u2.heap.size, 0, none⟩ : Addr).add j) = some u := by
                   intro j u hj
                   rw [add_none, Nat.zero_add, hat3.cell j, ← hj, flat_one]
                   simp [row]
                 have hdd : ∀ y ∈ [(a, Value.slice pd a.data.length cd)], Reads .u8 (u2.alloc (.cells #[.int .u32 a.code, .int .u32 a.vendor, .bool a.must, .bool a.prot, .slice pd a.data.length cd] 41)) y.2 y.1.data ∧ Apart (.slice pl acc.length cl) y := by
                   intro y hy
                   rw [List.mem_singleton] at hy
                   subst hy
                   exact ⟨hd3, hap⟩
                 have K1 : acc.length + [(a, Value.slice pd a.data.length cd)].length ≤ maxLen := by simp [maxLen]; omega
                 have K2 : (acc.length + [(a, Value.slice pd a.data.length cd)].length) * 40 ≤ 140737488355328 := by simp; omega
                 have K3 := hbl3.size
                 have hol := fun k e => (hown3.lt k e).1
                 clear hown2 hd2 hat3 hal)
              | (refine wpList_load_row rfl 41 (.tmp 5) rfl w1.heap.size rfl 41 _ _ _ h2 Try.underlying41 rfl (by kernel_rfl) ?_)
              | (at_builtin; refine wpl_appendL rfl _ _ 22 rfl w.heap.size 41 40 i41 z41 Try.underlying22 i1 i2 i3 i4 i5 (.slice pl acc.length cl) ⟨u2.heap.size, 0, none⟩ 1 acc [(a, .slice pd a.data.length cd)] rfl rfl hown3 hnews hdd K1 K2 K3 ?_; intro v' w' hv' hg'; clear hown3 hnews hdd hd3))
            obtain ⟨f', hf1, hf2⟩ := getF_go HF.out.2 hlt h64' (by rw [HY.out, HE.out])
            rw [HY.out, HN.out] at hf1
            rw [HY.out, HN.out, HA.out] at hf2
            refine ⟨⟨at_ + n.toNat, f', acc ++ [a], by congr 1; omega, by omega, by simp; omega, hv', hbl3.grown hg' hbl3.size hol, Lib.hid ⟨hf2.symm.trans HF.out.1, hf1⟩⟩, by simp only [intOf]; omega⟩
          · have hne : (E != 0) = true := by simpa using hE0
            go_wp2_with (refine wpList_store_row rfl 41 _ _ rfl w1.heap.size _ rfl rfl 41 _ h1 (by kernel_rfl) rfl (by simp [Value.oneCell']) ?_)
            go_ret3
            have hRR : R = ([], (at_ : Int), E) := by
              rw [← HF.out.1, getF_bad HF.out.2 hlt h64' (by rw [HY.out, HE.out]; exact hE0), HY.out, HE.out]
            rw [hRR]
            exact ⟨_, rfl, OwnL.nil _ _ _, hbl1.trans (hbb.mono hbl1.size)⟩
        · obtain h64e : acc.length = 64 := by omega
          have hge : (64 : Int) ≤ acc.length := by omega
          go_wp2_with fail
          go_ret3
          have hRR : R = ([], (at_ : Int), 4) := by rw [← HF.out.1, getF_full HF.out.2 hlt (by omega)]
          rw [hRR]
          exact ⟨_, rfl, OwnL.nil _ _ _, hbl⟩
      · obtain rfl : at_ = xs.length := by omega
        go_wp2_with fail
        go_ret3
        have hRR : R = (acc, 0, 0) := by rw [← HF.out.1, getF_end (by omega)]
        rw [hRR]
        exact ⟨_, rfl, hown, hbl⟩
end Go.Proofs.Ytjfponhdlfhmbaa.Avp
