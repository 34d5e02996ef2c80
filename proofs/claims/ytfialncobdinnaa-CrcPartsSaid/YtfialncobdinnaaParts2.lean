/-
  The law CrcParts: the walk.
-/
import Derived.Test.YtfialncobdinnaaParts1
import Derived.Test.YtfialncobdinnaaMonoC
import Derived.Test.YtfialncobdinnaaFresh
import Derived.Test.YtfialncobdinnaaOps
import Derived.Test.YtfialncobdinnaaMono
import Derived.Test.YtfialncobdinnaaPrps
import Derived.Deep.DeepMust
import Derived.Lib.Hide
namespace Go.Proofs.Ytfialncobdinnaa.Laws
open Go.RowKit Mem Crc Cells Ops
set_option linter.unusedVariables false
set_option linter.unusedSimpArgs false
attribute [local simp] MonoC.DepFacts MonoC.want MonoC.isV MonoC.anyV MonoC.Fin Act.eval Act.put Region.binds

theorem if_want {c : Bool} {A B : Prop} (h : c = true) (ha : A) : if c = true then A else B := by rw [if_pos h]; exact ha
theorem shapeT {k : IntKind} {e B : Nat} {w : World} {v : Value} {xs : List Int} {n : Nat} (h : Row k e B w v xs) (hn : xs.length = n) : ∃ p c, v = .slice p n c := by
  obtain ⟨p, c, rfl, _⟩ := h.reads
  exact ⟨p, c, by rw [hn]⟩
theorem cellOf {k : IntKind} {e B g n c : Nat} {w : World} {xs : List Int} (h : Row k e B w (.slice (some ⟨g, 0, none⟩) n c) xs) (j : Nat) (hj : j < xs.length) : w.cell? ⟨g, j, none⟩ = some (.int k (xs.getD j 0)) := by
  obtain ⟨_, _, rfl, _⟩ := Mem.Row.form h (by omega)
  exact (Mem.Row.cell h j hj).1
theorem getD_mem {xs : List Int} {k : Nat} (h : k < xs.length) : xs.getD k 0 ∈ xs := by
  rw [List.getD_eq_getElem?_getD, List.getElem?_eq_getElem h]
  simp
theorem xor8 (x t : Int) (hx : 0 ≤ x ∧ x ≤ 255) (ht : 0 ≤ t ∧ t ≤ 255) : bits .xor .u8 x t = xorI x t := by
  obtain ⟨a, rfl⟩ := Int.eq_ofNat_of_zero_le hx.1
  obtain ⟨b, rfl⟩ := Int.eq_ofNat_of_zero_le ht.1
  rw [u8_xor_nat _ _ (by omega) (by omega)]
  rfl
theorem row_grown {k : IntKind} {e B g : Nat} {w w' : World} {v : Value} {xs : List Int} (h : Row k e B w v xs) (hg : w.grownBy w' (some g)) (hne : v.ownBlock ≠ some g) : Row k e B w' v xs := by
  refine ⟨h.1, ?_⟩
  rcases h.2 with hn | ⟨g', cap, cur, rfl, hb, hgg, rest⟩
  · exact .inl hn
  · refine .inr ⟨g', cap, cur, rfl, hb, ?_, rest⟩
    rw [hg.block g' (Array.getElem?_eq_some_iff.1 hgg).1 (fun e => hne e)]
    exact hgg
def emptyC (B : Nat) : MonoC.Prp := ⟨fun v u => ∃ g, v = .slice (some ⟨g, 0, none⟩) 0 0 ∧ B ≤ g ∧ At u g 5 #[], fun _ _ _ ⟨g, h1, h2, h3⟩ hb => ⟨g, h1, h2, h3.ext hb⟩⟩
def readsC (xs : List Int) : MonoC.Prp := ⟨fun v u => Reads .u8 u v xs, fun _ _ _ h hb => h.below hb⟩
def rowC (B : Nat) (xs : List Int) : MonoC.Prp := ⟨fun v u => Row .u8 5 B u v xs, fun _ _ _ h hb => h.below hb⟩
section
variable {P : Program} {w : World} {o : Oper} {a : Act} {K : Act → World → Prop} {Q : Exit → Act → World → Prop}
theorem wp_emptyS (S e : TypeId) (ho : o.op = .buildSlice S 0 #[]) (hrun : ∀ w : World, (Instr.buildSlice S 0 #[]).run P w = .ok (.slice (some ⟨w.heap.size, 0, none⟩) 0 0) (w.alloc (.cells #[] e)))
    (h : K (a.put o.dst (.slice (some ⟨w.heap.size, 0, none⟩) 0 0)) (w.alloc (.cells #[] e))) : o.wp P a w K Q := by
  unfold Oper.wp execOp
  have hp : (#[] : Array (Nat × Operand)).map (fun (i, x) => (i, a.eval x)) = #[] := by simp
  simp only [ho, hp, Sem.run_bind, hrun w, Result.andThen_ok]
  exact h
theorem wp_move (x : Operand) (ho : o.op = .move x) (h : K (a.put o.dst (a.eval x)) w) : o.wp P a w K Q := by
  unfold Oper.wp execOp
  simp only [ho, Sem.run_pure]
  exact h
theorem wp_assign (x : Operand) (ho : o.op = .assign x) (h : K (a.put o.dst (a.eval x)) w) : o.wp P a w K Q := by
  unfold Oper.wp execOp
  simp only [ho, Sem.run_pure]
  exact h
theorem wp_call8 (x : Operand) (ho : o.op = .call { callee := .value (.func 8), args := #[x], argTypes := #[22] }) (h : Calls Try.prog 8 #[a.eval x] w fun e w' => ∃ v, e = .returned v ∧ K (a.put o.dst v) w') : o.wp Try.prog a w K Q := by
  have hrun : (execOp a.eval o).run Try.prog w = .ok (.enter 8 #[a.eval x]) w := by
    simp [execOp, ho, go_sem]
  unfold Oper.wp
  rw [hrun]
  simp only [Oper.upon]
  exact Calls.mono h (fun e w'' ⟨v, he, hk⟩ => by subst he; exact hk)
theorem wp_xor32 (x y : Operand) (ho : o.op = .binOp .xor 24 x y 24) (A B : Int) (hx : a.eval x = .int .u32 A) (hy : a.eval y = .int .u32 B) (h : K (a.put o.dst (.int .u32 (bits .xor .u32 A B))) w) : o.wp Try.prog a w K Q := by
  unfold Oper.wp execOp
  simp only [ho, hx, hy]
  go_simp
  exact h
theorem wp_eql32 (x y : Operand) (ho : o.op = .binOp .eql 24 x y 24) (A : Int) (hx : a.eval x = .int .u32 A) (hy : a.eval y = .int .u32 A) (h : K (a.put o.dst (.bool true)) w) : o.wp Try.prog a w K Q := by
  unfold Oper.wp execOp
  simp only [ho, hx, hy]
  go_simp
  simpa using h
theorem wp_sub_h (t : TypeId) (x hi : Operand) (ho : o.op = .slice t x none (some hi) none) (k : IntKind) (i : TypeInfo)
    (ht : P.underlying t = some (.slice (P.elem t))) (hii : P.info? (P.elem t) = some i) (hsize : i.size = 1)
    (v : Value) (xs : List Int) (h : Int) (hx : a.eval x = v) (hh : a.eval hi = .int .i64 h) (hr : Reads k w v xs) (h0 : 0 ≤ h) (h1 : h ≤ xs.length)
    (hK : ∀ v', Reads k w v' (xs.take h.toNat) → K (a.put o.dst v') w) : o.wp P a w K Q := by
  have hr' := hr
  obtain ⟨p, c, rfl, k1, k2, k3, k4⟩ := hr
  have hs : (sizeOf (P.elem t)).run P w = .ok 1 w := by simp [sizeOf, typeInfo, hii, hsize]
  unfold Oper.wp execOp
  simp only [ho, hx, hh, Option.map_some, Option.map_none, run_sliceAt_slice w t _ _ _ _ ht, run_slice_h w t p xs.length c ht .i64 h h0 (by omega), hs, Sem.run_bind, Sem.run_pure, Result.andThen_ok]
  have := hr'.sliced 0 h.toNat (by omega) (by omega)
  refine hK _ ?_
  simpa using this
end
set_option maxRecDepth 100000 in
set_option maxHeartbeats 3200000 in
theorem parts (v0 v1 v2 : Value) (al bl ts : List Int) (w : World) (h0 : Reads .u8 w v0 al) (h1 : Reads .u8 w v1 bl) (h2 : Reads .u8 w v2 ts) (w0 : ∀ x ∈ al, 0 ≤ x ∧ x ≤ 255) (w1 : ∀ x ∈ bl, 0 ≤ x ∧ x ≤ 255) (w2 : ∀ x ∈ ts, 0 ≤ x ∧ x ≤ 255)
    (b0 : al.length ≤ 140737488351232) (b1 : bl.length ≤ 140737488351232) (b2 : ts.length ≤ 140737488351232) : Calls Try.prog 6 #[v0, v1, v2] w fun e w' => e = .returned (.bool true) ∧ Below w.heap.size w w' := by
  have H0 := Lib.hid h0
  have H1 := Lib.hid h1
  have H2 := Lib.hid h2
  obtain ⟨p0, c0, rfl, q01, q02, q03, _⟩ := h0
  obtain ⟨p1, c1, rfl, q11, q12, q13, _⟩ := h1
  obtain ⟨p2, c2, rfl, q21, q22, q23, _⟩ := h2
  by_cases hle : al.length < ts.length ∨ bl.length < ts.length
  · clear w0 w1 w2
    have hx := Below.refl w.heap.size w
    by_cases ha : al.length < ts.length
    all_goals
      go_enter Try.func6, Try.ntmps6
      go_wp2_with (go_at_call 7; go_must (refine (answers _).mono ?_; rintro e u ⟨rfl, hbu⟩; have hx1 := hx.trans (hbu.mono hx.size); clear hx hbu; have hx := hx1; clear hx1))
      go_ret
      exact ⟨rfl, hx⟩
  · have hla : ts.length ≤ al.length := by omega
    have hlb : ts.length ≤ bl.length := by omega
    clear hle
    obtain ⟨xs, hxs⟩ : ∃ xs, al.take ts.length = xs := ⟨_, rfl⟩
    obtain ⟨ys, hys⟩ : ∃ ys, bl.take ts.length = ys := ⟨_, rfl⟩
    have hxl : xs.length = ts.length := by rw [← hxs, List.length_take]; omega
    have hyl : ys.length = ts.length := by rw [← hys, List.length_take]; omega
    have hwx : ∀ x ∈ xs, 0 ≤ x ∧ x ≤ 255 := fun x hx => w0 x (by rw [← hxs] at hx; exact List.mem_of_mem_take hx)
    have hwy : ∀ x ∈ ys, 0 ≤ x ∧ x ≤ 255 := fun x hx => w1 x (by rw [← hys] at hx; exact List.mem_of_mem_take hx)
    have HXS := Lib.hid hxs
    have HYS := Lib.hid hys
    have HXL := Lib.hid hxl
    have HYL := Lib.hid hyl
    have HWX := Lib.hid hwx
    have HWY := Lib.hid hwy
    have HWT := Lib.hid w2
    obtain ⟨i0, hi, hz0, hz1, hz2⟩ := info_parts info5
    have hx := Below.refl w.heap.size w
    clear hxs hys hxl hyl hwx hwy w0 w1 w2
    go_enter Try.func6, Try.ntmps6
    go_wp2_with (go_at_call 7; go_must (refine (answers _).mono ?_; rintro e u ⟨rfl, hbu⟩; have hx1 := hx.trans (hbu.mono hx.size); clear hx hbu; have hx := hx1; clear hx1))
    refine MonoC.wp_region_mono [some 28, some 29, some 30, some 31, some 32, some 33, some 34, some 35, some 36, some 37, some 8, some 9] [emptyC w.heap.size, MonoC.isV (.slice p0 al.length c0), MonoC.isV (.int .i64 ts.length), readsC xs, rowC w.heap.size xs, emptyC w.heap.size, MonoC.isV (.slice p1 bl.length c1), MonoC.isV (.int .i64 ts.length), readsC ys, rowC w.heap.size ys, rowC w.heap.size xs, rowC w.heap.size ys] [1, 0, 0, 0, 1, 2, 0, 0, 0, 2, 1, 2] (by decide) (by kernel_rfl) (by kernel_rfl) ?_ ?_
    · simp only [MonoC.OpGoals, and_true]
      refine ⟨?_, ?_, ?_, ?_, ?_, ?_, ?_, ?_, ?_, ?_, ?_, ?_⟩
      · intro a s hbu hsu hdu
        refine if_want rfl ?_
        refine wp_emptyS 22 5 rfl (fun _ => by kernel_rfl) ?_
        exact ⟨_, rfl, (Below.refl _ _).alloc (Nat.le_refl _) _, ⟨_, rfl, Nat.le_trans hx.size hbu.size, At.new s 5 #[]⟩, fun _ g hg => by have e : s.heap.size = g := Option.some.inj hg; subst e; exact ⟨by simp, .inl (Nat.le_refl _)⟩⟩
      · intro a s hbu hsu hdu
        refine if_want rfl ?_
        refine wp_move (.tmp 0) rfl ?_
        exact ⟨_, rfl, Below.refl _ _, hsu 0 (by decide), fun h => absurd rfl h⟩
      · intro a s hbu hsu hdu
        refine if_want rfl ?_
        refine wp_move (.tmp 7) rfl ?_
        exact ⟨_, rfl, Below.refl _ _, hsu 7 (by decide), fun h => absurd rfl h⟩
      · intro a s hbu hsu hdu
        refine if_want rfl ?_
        refine wp_sub_h 22 (.tmp 29) (.tmp 30) rfl .u8 i0 Try.underlying22 hi hz1 _ al ts.length (hdu.1 rfl) (hdu.2.1 rfl) ((H0.out.below hx).below hbu) (by omega) (by omega) ?_
        intro v hv
        rw [Int.toNat_natCast, HXS.out] at hv
        exact ⟨v, rfl, Below.refl _ _, hv, fun h => absurd rfl h⟩
      · intro a s hbu hsu hdu
        refine if_want rfl ?_
        obtain ⟨g, e1, hgB, hat⟩ := hdu.1 rfl
        refine wp_append_fresh (.tmp 28) (.tmp 31) 22 rfl .u8 w.heap.size 5 1 g i0 (.int .u8 0) Try.underlying22 hi hz0 hz1 hz2 rfl _ xs e1 rfl hat (hdu.2.1 rfl) hgB (by simp only [maxLen]; have := HXL.out; omega) (by have := HXL.out; omega) ?_
        intro v' w' hr' hb' hq
        refine ⟨v', rfl, hb', hr', fun _ q hq' => ⟨(hr'.lt q hq').2, ?_⟩⟩
        rcases hq q hq' with e | e
        · exact .inr ⟨⟨0, .data⟩, by simp, rfl, rfl, 28, rfl, by rw [e1, e]; rfl⟩
        · exact .inl e
      · intro a s hbu hsu hdu
        refine if_want rfl ?_
        refine wp_emptyS 22 5 rfl (fun _ => by kernel_rfl) ?_
        exact ⟨_, rfl, (Below.refl _ _).alloc (Nat.le_refl _) _, ⟨_, rfl, Nat.le_trans hx.size hbu.size, At.new s 5 #[]⟩, fun _ g hg => by have e : s.heap.size = g := Option.some.inj hg; subst e; exact ⟨by simp, .inl (Nat.le_refl _)⟩⟩
      · intro a s hbu hsu hdu
        refine if_want rfl ?_
        refine wp_move (.tmp 1) rfl ?_
        exact ⟨_, rfl, Below.refl _ _, hsu 1 (by decide), fun h => absurd rfl h⟩
      · intro a s hbu hsu hdu
        refine if_want rfl ?_
        refine wp_move (.tmp 7) rfl ?_
        exact ⟨_, rfl, Below.refl _ _, hsu 7 (by decide), fun h => absurd rfl h⟩
      · intro a s hbu hsu hdu
        refine if_want rfl ?_
        refine wp_sub_h 22 (.tmp 34) (.tmp 35) rfl .u8 i0 Try.underlying22 hi hz1 _ bl ts.length (hdu.1 rfl) (hdu.2.1 rfl) ((H1.out.below hx).below hbu) (by omega) (by omega) ?_
        intro v hv
        rw [Int.toNat_natCast, HYS.out] at hv
        exact ⟨v, rfl, Below.refl _ _, hv, fun h => absurd rfl h⟩
      · intro a s hbu hsu hdu
        refine if_want rfl ?_
        obtain ⟨g, e1, hgB, hat⟩ := hdu.1 rfl
        refine wp_append_fresh (.tmp 33) (.tmp 36) 22 rfl .u8 w.heap.size 5 1 g i0 (.int .u8 0) Try.underlying22 hi hz0 hz1 hz2 rfl _ ys e1 rfl hat (hdu.2.1 rfl) hgB (by simp only [maxLen]; have := HYL.out; omega) (by have := HYL.out; omega) ?_
        intro v' w' hr' hb' hq
        refine ⟨v', rfl, hb', hr', fun _ q hq' => ⟨(hr'.lt q hq').2, ?_⟩⟩
        rcases hq q hq' with e | e
        · exact .inr ⟨⟨5, .data⟩, by simp, rfl, rfl, 33, rfl, by rw [e1, e]; rfl⟩
        · exact .inl e
      · intro a s hbu hsu hdu
        refine if_want rfl ?_
        refine wp_assign (.tmp 32) rfl ?_
        have hr' := hdu.1 rfl
        exact ⟨_, rfl, Below.refl _ _, hr', fun _ q hq' => ⟨(World.ownsRow.lt hr' q hq').2, .inr ⟨⟨4, .data⟩, by simp, rfl, rfl, 32, rfl, hq'⟩⟩⟩
      · intro a s hbu hsu hdu
        refine if_want rfl ?_
        refine wp_assign (.tmp 37) rfl ?_
        have hr' := hdu.1 rfl
        exact ⟨_, rfl, Below.refl _ _, hr', fun _ q hq' => ⟨(World.ownsRow.lt hr' q hq').2, .inr ⟨⟨9, .data⟩, by simp, rfl, rfl, 37, rfl, hq'⟩⟩⟩
    · intro u hu
      simp only [MonoC.Fin]
      intro v28 h28 n28 v29 h29 n29 v30 h30 n30 v31 h31 n31 v32 h32 n32 v33 h33 n33 v34 h34 n34 v35 h35 n35 v36 h36 n36 v37 h37 n37 v8 h8 n8 v9 h9 n9
      have hap := n9 (by decide) (1, v8) (by simp) (show (1 : Nat) ≠ 2 by decide)
      have hr8 : Row .u8 5 w.heap.size u v8 xs := h8
      have hr9 : Row .u8 5 w.heap.size u v9 ys := h9
      obtain ⟨p8, c8, rfl⟩ := shapeT hr8 HXL.out
      obtain ⟨p9, c9, rfl⟩ := shapeT hr9 HYL.out
      have hbl := hx.trans (hu.mono hx.size)
      have HAP := Lib.hid hap
      have hm0 : mix xs ts 0 = xs := mix_zero xs ts
      have hm1 : mix ys ts 0 = ys := mix_zero ys ts
      rw [← hm0] at hr8
      rw [← hm1] at hr9
      clear hm0 hm1 hap h8 h9 n28 n29 n30 n31 n32 n33 n34 n35 n36 n37 n8 n9 h28 h29 h30 h31 h32 h33 h34 h35 h36 h37 hu hx hi hz0 hz1 hz2
      go_wp2_with fail
      go_loopw [10] (fun i wr => ∃ k : Nat, i = .int .i64 k ∧ k ≤ ts.length ∧ Row .u8 5 w.heap.size wr (.slice p8 ts.length c8) (mix xs ts k) ∧ Row .u8 5 w.heap.size wr (.slice p9 ts.length c9) (mix ys ts k) ∧ Below w.heap.size w wr) (fun i _ => ts.length - (intOf i).toNat)
      case atStart => exact ⟨0, rfl, by omega, hr8, hr9, hbl⟩
      case round =>
        clear hr8 hr9 hbl
        obtain ⟨k, rfl, hk, hr8, hr9, hbl⟩ := hrel
        by_cases hlt : k < ts.length
        · obtain ⟨q2, d2, e2, _, _, _, hc2⟩ := id H2.out
          cases e2
          obtain ⟨bt, offt, rfl, hltt, hct⟩ := hc2 (by omega)
          have hlx := mix_length xs ts k HXL.out
          have hly := mix_length ys ts k HYL.out
          have hxt := HXL.out
          have hyt := HYL.out
          obtain ⟨g8, rfl, e8, hg8, hl8⟩ := hr8.form (by omega)
          obtain ⟨g9, rfl, e9, hg9, hl9⟩ := hr9.form (by omega)
          have hne : g8 ≠ g9 := fun e => HAP.out g9 rfl (by rw [e]; rfl)
          have hx1 := HWX.out (xs.getD k 0) (getD_mem (by omega))
          have hy1 := HWY.out (ys.getD k 0) (getD_mem (by omega))
          have ht1 := HWT.out (ts.getD k 0) (getD_mem hlt)
          have c8' := cellOf hr8 k (by omega)
          have c9' := cellOf hr9 k (by omega)
          rw [mix_get xs ts k hxt (by omega)] at c8'
          rw [mix_get ys ts k hyt (by omega)] at c9'
          have ct0 := hct k hlt
          have hsx := mix_set xs ts k hxt (by omega)
          have hsy := mix_set ys ts k hyt (by omega)
          obtain ⟨x, hx⟩ : ∃ x, xs.getD k 0 = x := ⟨_, rfl⟩
          obtain ⟨y, hy⟩ : ∃ y, ys.getD k 0 = y := ⟨_, rfl⟩
          obtain ⟨tt, ht⟩ : ∃ tt, ts.getD k 0 = tt := ⟨_, rfl⟩
          rw [hx] at hx1 c8' hsx
          rw [hy] at hy1 c9' hsy
          rw [ht] at ht1 ct0 hsx hsy
          have ct := (hbl.cell (p := ⟨bt, offt + k, none⟩) hltt).trans ct0
          have CT := Lib.hid ct0
          have hxx := xor8 x tt hx1 ht1
          have hxy := xor8 y tt hy1 ht1
          have hc9v : some (Value.int .u8 ((mix ys ts k).getD k 0)) = some (.int .u8 y) := by rw [mix_get ys ts k hyt (by omega), hy]
          obtain ⟨MX, hMX⟩ : ∃ MX, mix xs ts k = MX := ⟨_, rfl⟩
          obtain ⟨MY, hMY⟩ : ∃ MY, mix ys ts k = MY := ⟨_, rfl⟩
          rw [hMX] at hr8 hsx hlx
          rw [hMY] at hr9 hsy hly hc9v
          have HLX := Lib.hid (hlx.trans hxt)
          have HLY := Lib.hid (hly.trans hyt)
          have HSX := Lib.hid hsx
          have HSY := Lib.hid hsy
          have HG9 := Lib.hid (fun u (h : Row .u8 5 w.heap.size u (.slice (some ⟨g9, 0, none⟩) ts.length c9) MY) => (cellOf h k (by omega)).trans hc9v)
          clear hx hy ht hMX hMY hlx hly hxt hyt hsx hsy hc2 hct e8 e9 c9' ct0 hc9v
          have kn : k < ts.length := hlt
          go_wp2_with fail
          go_still_tail 12, (by kernel_rfl)
          change wpList _ _ _ _ _ wr.drew
          have hrd8 : Row .u8 5 w.heap.size wr.drew (.slice (some ⟨g8, 0, none⟩) ts.length c8) MX := hr8.below (Frame.ext_drew wr)
          have hrd9 : Row .u8 5 w.heap.size wr.drew (.slice (some ⟨g9, 0, none⟩) ts.length c9) MY := hr9.below (Frame.ext_drew wr)
          have hbd := hbl.drew
          clear c8' ct hr8 hr9 hbl hl8 hl9
          generalize wr.drew = wd at hrd8 hrd9 hbd
          go_wp2_with ((with_reducible refine wpl_storeB rfl 5 (.tmp 54) (.tmp 53) rfl rfl .u8 w.heap.size 5 g8 ts.length c8 k MX (xorI x tt) ?_ ?_ hrd8 ?_ ?_ (by kernel_rfl) ?_); rfl; rfl; exact HLX.out.symm; (have := HLX.out; omega); go_must (intro u1 hs8 hgu; rw [HSX.out] at hs8; have hs9 := row_grown hrd9 hgu (fun e => hne (Option.some.inj e).symm); have hbs := hbd.grown hgu hbd.size (fun q e => by cases e; exact hg8); clear hrd8 hrd9 hbd hgu))
          have c9' := HG9.out _ hs9
          have ct := (hbs.cell (p := ⟨bt, offt + k, none⟩) hltt).trans CT.out
          clear hxx
          go_still_tail 12, (by kernel_rfl)
          change wpList _ _ _ _ _ u1.drew
          have hrd8 : Row .u8 5 w.heap.size u1.drew (.slice (some ⟨g8, 0, none⟩) ts.length c8) (mix xs ts (k + 1)) := hs8.below (Frame.ext_drew u1)
          have hrd9 : Row .u8 5 w.heap.size u1.drew (.slice (some ⟨g9, 0, none⟩) ts.length c9) MY := hs9.below (Frame.ext_drew u1)
          have hbd := hbs.drew
          clear c9' ct hs8 hs9 hbs
          generalize u1.drew = wd2 at hrd8 hrd9 hbd
          go_wp2_with ((with_reducible refine wpl_storeB rfl 5 (.tmp 66) (.tmp 65) rfl rfl .u8 w.heap.size 5 g9 ts.length c9 k MY (xorI y tt) ?_ ?_ hrd9 ?_ ?_ (by kernel_rfl) ?_); rfl; rfl; exact HLY.out.symm; (have := HLY.out; omega); go_must (intro u2 hs9 hgu; rw [HSY.out] at hs9; have hs8 := row_grown hrd8 hgu (fun e => hne (Option.some.inj e)); have hbs := hbd.grown hgu hbd.size (fun q e => by cases e; exact hg9); clear hrd8 hrd9 hbd hgu))
          go_roundw
          case rel => exact ⟨k + 1, by go_num, by omega, hs8, hs9, hbs⟩
          case measure => simp [intOf]; omega
        · obtain rfl : k = ts.length := by omega
          have hx1 := parts_eq HXL.out HWX.out HWT.out
          have hy1 := parts_eq HYL.out HWY.out HWT.out
          rw [HXL.out] at hx1
          rw [HYL.out] at hy1
          have hwm8 := mix_bd xs ts ts.length HWX.out HWT.out
          have hwm9 := mix_bd ys ts ts.length HWY.out HWT.out
          have hl8 := mix_length xs ts ts.length HXL.out
          have hl9 := mix_length ys ts ts.length HYL.out
          have hxl := HXL.out
          have hyl := HYL.out
          have hrd8 := hr8.reads
          have hrd9 := hr9.reads
          obtain ⟨S1, hS1⟩ : ∃ S, more 0 xs = S := ⟨_, rfl⟩
          obtain ⟨S2, hS2⟩ : ∃ S, more 0 (mix xs ts ts.length) = S := ⟨_, rfl⟩
          obtain ⟨S3, hS3⟩ : ∃ S, more 0 ys = S := ⟨_, rfl⟩
          obtain ⟨S4, hS4⟩ : ∃ S, more 0 (mix ys ts ts.length) = S := ⟨_, rfl⟩
          obtain ⟨X, hX⟩ : ∃ X, steps (8 * ts.length) (text ts) = X := ⟨_, rfl⟩
          rw [hS1, hS2, hX] at hx1
          rw [hS3, hS4, hX] at hy1
          have m1 : S1 < 4294967296 := by rw [← hS1]; exact more_lt
          have m2 : S2 < 4294967296 := by rw [← hS2]; exact more_lt
          have m3 : S3 < 4294967296 := by rw [← hS3]; exact more_lt
          have m4 : S4 < 4294967296 := by rw [← hS4]; exact more_lt
          have PS1 := Lib.hid (fun v u (h : Reads .u8 u v xs) => by have := sumP v xs u h HWX.out (by omega); rwa [hS1] at this)
          have PS2 := Lib.hid (fun v u (h : Reads .u8 u v (mix xs ts ts.length)) => by have := sumP v _ u h hwm8 (by omega); rwa [hS2] at this)
          have PS3 := Lib.hid (fun v u (h : Reads .u8 u v ys) => by have := sumP v ys u h HWY.out (by omega); rwa [hS3] at this)
          have PS4 := Lib.hid (fun v u (h : Reads .u8 u v (mix ys ts ts.length)) => by have := sumP v _ u h hwm9 (by omega); rwa [hS4] at this)
          have HE1 := Lib.hid hx1
          have HE2 := Lib.hid hy1
          have HXL2 := Lib.hid hxl
          clear hS1 hS2 hS3 hS4 hX hx1 hy1 hwm8 hwm9 hl8 hl9 hxl hyl hr8 hr9
          go_wp2_with fail
          obtain ⟨i0, hi, hz0, hz1, hz2⟩ := info_parts info5
          refine Mono.wp_region_mono [some 67, some 68, some 69, some 70, some 71, some 72, some 73, some 74, some 75, some 76, some 77, some 78, some 79, some 80, some 81, some 6] [Mono.isV (.slice p0 al.length c0), Mono.isV (.int .i64 ts.length), readsP .u8 xs, Mono.isV (.int .u32 S1), Mono.isV (.slice p8 ts.length c8), Mono.isV (.int .u32 S2), Mono.isV (.int .u32 X), Mono.isV (.slice p1 bl.length c1), Mono.isV (.int .i64 ts.length), readsP .u8 ys, Mono.isV (.int .u32 S3), Mono.isV (.slice p9 ts.length c9), Mono.isV (.int .u32 S4), Mono.isV (.int .u32 X), Mono.isV (.bool true), Mono.isV (.bool true)] (by kernel_rfl) (by kernel_rfl) ?_ ?_
          · simp only [Mono.OpGoals, and_true]
            refine ⟨?_, ?_, ?_, ?_, ?_, ?_, ?_, ?_, ?_, ?_, ?_, ?_, ?_, ?_, ?_, ?_⟩
            · intro a s hbu hsu hdu
              refine if_want rfl ?_
              refine wp_move (.tmp 0) rfl ?_
              exact ⟨_, rfl, Below.refl _ _, hsu 0 (by decide)⟩
            · intro a s hbu hsu hdu
              refine if_want rfl ?_
              refine wp_move (.tmp 7) rfl ?_
              exact ⟨_, rfl, Below.refl _ _, hsu 7 (by decide)⟩
            · intro a s hbu hsu hdu
              refine if_want rfl ?_
              refine wp_sub_h 22 (.tmp 67) (.tmp 68) rfl .u8 i0 Try.underlying22 hi hz1 _ al ts.length (hdu.1 rfl) (hdu.2.1 rfl) ((H0.out.below hbl).below hbu) (by omega) (by omega) ?_
              intro v hv
              rw [Int.toNat_natCast, HXS.out] at hv
              exact ⟨v, rfl, Below.refl _ _, hv⟩
            · intro a s hbu hsu hdu
              refine if_want rfl ?_
              refine wp_call8 (.tmp 69) rfl ?_
              refine (PS1.out _ _ (hdu.1 rfl)).mono ?_
              rintro e s' ⟨rfl, hb'⟩
              exact ⟨_, rfl, _, rfl, hb', rfl⟩
            · intro a s hbu hsu hdu
              refine if_want rfl ?_
              refine wp_move (.tmp 8) rfl ?_
              exact ⟨_, rfl, Below.refl _ _, hsu 8 (by decide)⟩
            · intro a s hbu hsu hdu
              refine if_want rfl ?_
              refine wp_call8 (.tmp 71) rfl ?_
              refine (PS2.out _ _ (by have e := hdu.1 rfl; have e2 : a.eval (.tmp 71) = _ := e; rw [e2]; exact hrd8.below hbu)).mono ?_
              rintro e s' ⟨rfl, hb'⟩
              exact ⟨_, rfl, _, rfl, hb', rfl⟩
            · intro a s hbu hsu hdu
              refine if_want rfl ?_
              refine wp_xor32 (.tmp 70) (.tmp 72) rfl _ _ (hdu.1 rfl) (hdu.2.1 rfl) ?_
              exact ⟨_, rfl, Below.refl _ _, by show Value.int .u32 _ = _; rw [u32_xor_nat _ _ m1 m2, HE1.out]⟩
            · intro a s hbu hsu hdu
              refine if_want rfl ?_
              refine wp_move (.tmp 1) rfl ?_
              exact ⟨_, rfl, Below.refl _ _, hsu 1 (by decide)⟩
            · intro a s hbu hsu hdu
              refine if_want rfl ?_
              refine wp_move (.tmp 7) rfl ?_
              exact ⟨_, rfl, Below.refl _ _, hsu 7 (by decide)⟩
            · intro a s hbu hsu hdu
              refine if_want rfl ?_
              refine wp_sub_h 22 (.tmp 74) (.tmp 75) rfl .u8 i0 Try.underlying22 hi hz1 _ bl ts.length (hdu.1 rfl) (hdu.2.1 rfl) ((H1.out.below hbl).below hbu) (by omega) (by omega) ?_
              intro v hv
              rw [Int.toNat_natCast, HYS.out] at hv
              exact ⟨v, rfl, Below.refl _ _, hv⟩
            · intro a s hbu hsu hdu
              refine if_want rfl ?_
              refine wp_call8 (.tmp 76) rfl ?_
              refine (PS3.out _ _ (hdu.1 rfl)).mono ?_
              rintro e s' ⟨rfl, hb'⟩
              exact ⟨_, rfl, _, rfl, hb', rfl⟩
            · intro a s hbu hsu hdu
              refine if_want rfl ?_
              refine wp_move (.tmp 9) rfl ?_
              exact ⟨_, rfl, Below.refl _ _, hsu 9 (by decide)⟩
            · intro a s hbu hsu hdu
              refine if_want rfl ?_
              refine wp_call8 (.tmp 78) rfl ?_
              refine (PS4.out _ _ (by have e := hdu.1 rfl; have e2 : a.eval (.tmp 78) = _ := e; rw [e2]; exact hrd9.below hbu)).mono ?_
              rintro e s' ⟨rfl, hb'⟩
              exact ⟨_, rfl, _, rfl, hb', rfl⟩
            · intro a s hbu hsu hdu
              refine if_want rfl ?_
              refine wp_xor32 (.tmp 77) (.tmp 79) rfl _ _ (hdu.1 rfl) (hdu.2.1 rfl) ?_
              exact ⟨_, rfl, Below.refl _ _, by show Value.int .u32 _ = _; rw [u32_xor_nat _ _ m3 m4, HE2.out]⟩
            · intro a s hbu hsu hdu
              refine if_want rfl ?_
              refine wp_eql32 (.tmp 73) (.tmp 80) rfl _ (hdu.1 rfl) (hdu.2.1 rfl) ?_
              exact ⟨_, rfl, Below.refl _ _, rfl⟩
            · intro a s hbu hsu hdu
              refine if_want rfl ?_
              refine wp_assign (.tmp 81) rfl ?_
              exact ⟨_, rfl, Below.refl _ _, hdu.1 rfl⟩
          · intro u hu
            simp [readsP, Mono.Fin, Mono.isV]
            intro v69 h69 v76 h76
            have hfin := hbl.trans (hu.mono hbl.size)
            clear hi hz0 hz1 hz2
            go_wp2_with fail
            go_ret
            exact ⟨rfl, hfin⟩
end Go.Proofs.Ytfialncobdinnaa.Laws
