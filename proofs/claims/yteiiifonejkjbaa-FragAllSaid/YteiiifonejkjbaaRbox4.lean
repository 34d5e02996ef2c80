/-
  Contract of the reference's box: out (28).
-/
import Derived.Test.YteiiifonejkjbaaRbox3
namespace Go.Proofs.Yteiiifonejkjbaa.Rb
open Go.RowKit Mem Cells Ops Pcs Go.Maps Go.Proofs.Yteiiifonejkjbaa.Open Go.Proofs.Yteiiifonejkjbaa.Bx
set_option linter.unusedVariables false
set_option linter.unusedSimpArgs false
attribute [local go_sem] Oper.semAt_some

section
variable {P : Program} {w : World} {ops : Array Oper} {rest : List Oper} {o : Oper} {a : Act} {Q : Exit → Act → World → Prop}
theorem wpl_sliceV (hgd : o.guard = none) (t : TypeId) (x : Operand) (lo hi mx : Option Operand) (ho : o.op = .slice t x lo hi mx) (v r : Value) (l h m : Option Value) (hx : a.eval x = v) (hl : lo.map a.eval = l) (hh : hi.map a.eval = h) (hm : mx.map a.eval = m)
    (hrun : (Instr.sliceAt t v l h m).run P w = .ok r w) (K : wpList P ops Q rest (a.put o.dst r) w) : wpList P ops Q (o :: rest) a w := by
  refine wpList_plain hgd fun K' hK => ?_
  unfold Oper.wp execOp
  simp only [ho, hx, hl, hh, hm, Sem.run_bind, Sem.run_pure, hrun, Result.andThen_ok]
  exact hK _ _ K
end
def OutIs (Z : Nat) (w : World) (g : Nat) (vt : Value) (x : S) (t : Int) (n : Nat) : Ending → World → Prop := fun e w' => ∃ v vh, e = .returned v ∧ Row .u8 5 w.heap.size w' v (takeF n x.held t []).2 ∧ RB Z w' g vh vt { x with held := (takeF n x.held t []).1 } ∧ ButX (RX Z w) w w' ∧ ButX (fun k => k = g) w w'
set_option maxRecDepth 100000 in
set_option maxHeartbeats 8000000 in
theorem out28 {w : World} {Z g : Nat} {vh vt : Value} {x : S} (H : RB Z w g vh vt x) (t : Int) (ht : isU32 t) (n : Nat) (hn : n ≤ 512) (hp : ∀ k : Nat, k < n → (getH x.held (stp t (k : Int))).isSome = true) (hZ : Z ≤ w.heap.size) :
    Calls Try.prog 28 #[.pointer (some ⟨g, 0, none⟩), .int .u32 t, .int .i64 (n : Int)] w (OutIs Z w g vt x t n) := by
  obtain ⟨W0, hW0⟩ : ∃ W0, w = W0 := ⟨w, rfl⟩
  rw [hW0] at H hZ ⊢
  obtain ⟨zs, ys, hz⟩ := H.z
  have HZ0 := Lib.hid hz
  have HZ := Lib.hid hZ
  have HP := Lib.hid hp
  have HT := Lib.hid ht
  clear hz hZ hp hW0 H ht
  go_enter Try.func28, Try.ntmps28
  go_upto_region 3 with fail
  go_loopw [7, 8] (fun v7 v8 wr => ∃ (i : Nat) (acc : List Int) (h : List A) (vh : Value) (zs : List (A × Value)), v8 = .int .i64 (i : Int) ∧ Hid (Row .u8 5 W0.heap.size wr v7 acc) ∧ Hid (RBz Z W0 wr g vh vt { x with held := h } zs ys) ∧
    Hid (i ≤ n ∧ acc.length ≤ 256 * i ∧ takeF n x.held t [] = takeF (n - i) h (stp t (i : Int)) acc ∧ ∀ k : Nat, i ≤ k → k < n → (getH h (stp t (k : Int))).isSome = true) ∧ Hid (ButX (RX Z W0) W0 wr) ∧ Hid (ButX (fun k => k = g) W0 wr)) (fun _ v8 _ => n - (intOf v8).toNat)
  case atStart => exact ⟨0, [], x.held, vh, zs, rfl, World.ownsRow_nil _ _ _ _, HZ0.out, ⟨Nat.zero_le _, by simp, by rw [show ((0 : Nat) : Int) = 0 from rfl, stp_0 HT.out]; rfl, fun k _ hk => HP.out k hk⟩, ButX.refl _ _, ButX.refl _ _⟩
  case round =>
    clear HZ0 HP HT
    obtain ⟨i, acc, h, vh, zs, rfl, HRr, HBr, HIr, HXr, HGr⟩ := hrel
    by_cases hlt : i < n
    · have hltz : (i : Int) < (n : Int) := by omega
      have hltb : decide ((i : Int) < (n : Int)) = true := decide_eq_true hltz
      have HRB := Lib.hid (HBr.out.rb HXr.out)
      go_upto_region 6 with (go_at_call 26; go_must (refine (piece HRB.out _).mono ?_; rintro e w1 ⟨r, rfl, hr, hb1⟩; have HR := Lib.hid hr; have HB1 := Lib.hid hb1; clear hr hb1))
      have hst : (t + (i : Int)) % 4294967296 = stp t (i : Int) := by unfold stp; rw [Bx.wrap32]
      rw [hst] at HR ⊢
      clear hst
      have h1 := HR.out
      rcases h1 with ⟨rfl, hnone⟩ | ⟨k, r, rfl, hk, hrt, hget⟩
      · exact absurd (HIr.out.2.2.2 i (Nat.le_refl _) hlt) (by rw [hnone]; decide)
      · have hZ1 := HBr.out.below HB1.out
        have hR1 := Row.below HRr.out HB1.out
        have hX1 := rx_below HXr.out HB1.out
        obtain ⟨q, c, pd, md, hv, hkl, hlc, hql, hra, hrow⟩ := (hZ1.rb hX1).at hk
        subst hv
        have c0 := hZ1.row.cell 0
        simp [rbA] at c0
        have c6 := hra 6 _ rfl
        have hok : S.ok { x with held := h } := hZ1.ok
        have hr256 : r.data.length ≤ 256 := (hok.1.2.2 r (List.mem_of_getElem? hk)).2.2.1
        have hL512 : h.length ≤ 512 := hok.1.1
        obtain ⟨w2v, w2, hrun2, hR2, hg2⟩ := append30 hR1 hrow.reads (by have := HIr.out.2.1; omega) (Nat.le_trans hX1.size (Nat.le_refl _))
        have hZ2 := hZ1.grow hg2 hR1 (not_rt (by decide) (by decide) (by decide))
        have hX2 := rx_grow hX1 hg2 hR1 (Nat.le_refl _)
        have hG2 := butX_grown (HGr.out.trans ((ButX.ofBelow HB1.out (X := fun _ => False)).mono (fun k e => e.elim))) hg2 (fun q e => .inr (hR1.lt q e).1)
        have HG2 := Lib.hid hG2
        have hzl : zs.length = h.length := by have := congrArg List.length hZ2.h1; simpa using this
        have hfl : (flat zs).length = h.length * 7 := by rw [flat_length, hzl]
        have hone : ∀ u ∈ flat zs, u.oneCell' = true := flat_one' (w := W0) (fun z hz => (hZ2.h3 z hz).reads)
        obtain ⟨i0, hi, hz0, hz1, hz2⟩ := info_parts info45
        have hZZ : Z ≤ w2.heap.size := Nat.le_trans HZ.out hX2.size
        obtain ⟨v1, w3, hrun3, hb3, ho3, hv3⟩ := cut1 Try.underlying35 hi hz0 hz1 hz2 rfl (by decide) (by decide) hZ2.h2 hfl hone hkl (by show h.length ≤ _; omega) hZZ
        obtain ⟨A, hA, v2, w4, hrun4, hb4, ho4, hv4⟩ := cut2 Try.underlying35 hi hz0 hz1 hz2 rfl (by decide) (by decide) hZ2.h2 hfl hone hkl (by show h.length ≤ _; omega) hZZ hb3 ho3 hv3
        obtain ⟨L, hL⟩ : ∃ L, h.length = L := ⟨_, rfl⟩
        obtain ⟨rd, hrd⟩ : ∃ rd, r.data.length = rd := ⟨_, rfl⟩
        dsimp only at hkl hlc hA hrun4 ho4
        rw [hL] at hkl hlc c0 hA hrun4 ho4 hL512
        rw [hrd] at c6 hrow hrun2
        have HRD := Lib.hid hrd
        have HLX := Lib.hid hL
        have hkz : (k : Int) < (L : Int) := by omega
        have hk0 : (0 : Int) ≤ (k : Int) := by omega
        have hk0n : ¬ (k : Int) < (0 : Int) := by omega
        have R38 := Lib.hid (fun u => show (Instr.sliceAt 35 (.slice (some ⟨q, 0, none⟩) L c) none (some (.int .i64 k)) none).run Try.prog u = .ok (.slice (some ⟨q, 0, none⟩) k c) u by
          rw [run_h35 _ _ _ _ _ (by omega) (by omega)]
          unfold sliced
          simp [Addr.add, show ¬ c = 0 by omega])
        have R48 := Lib.hid (fun u => show (Instr.sliceAt 35 (.slice (some ⟨q, 0, none⟩) L c) (some (.int .i64 ((k : Int) + 1))) none none).run Try.prog u = .ok (.slice (some A) (L - (k + 1)) (c - (k + 1))) u by
          rw [run_l35 _ _ _ _ _ (by omega) (by omega), show ((k : Int) + 1).toNat = k + 1 from by omega, hA])
        have c2 := hZ2.row.cell 0
        have c3 := (hZ2.row.ext hb3).cell 0
        simp [rbA] at c2 c3
        rw [hL] at c2 c3
        have hrow4 : At w4 g 56 (rbA (.slice (some ⟨q, 0, none⟩) L c) vt x.next) := by
          have h1 := hZ2.row.ext hb4
          dsimp only at h1
          rw [hL] at h1
          exact h1
        have HRUN2 := Lib.hid hrun2
        have HRUN3 := Lib.hid hrun3
        have HRUN4 := Lib.hid hrun4
        have HX2 := Lib.hid hX2
        have HZ2 := Lib.hid hZ2
        have HR2 := Lib.hid hR2
        have HB4 := Lib.hid hb4
        have HO4 := Lib.hid ho4
        have HROW4 := Lib.hid hrow4
        have HK := Lib.hid (And.intro hk (And.intro hrt hget))
        have HR256 := Lib.hid hr256
        obtain ⟨p2, c2', hv2⟩ : ∃ p2 c2, v2 = .slice p2 (L - 1) c2 := by
          rcases ho4.2 with ⟨rfl, h0⟩ | ⟨g', cap, cur, rfl, _⟩
          · exact ⟨none, 0, by rw [h0]⟩
          · exact ⟨_, _, rfl⟩
        obtain ⟨m3, hm3⟩ : ∃ m3, L - 1 = m3 := ⟨_, rfl⟩
        rw [hm3] at hv2 HO4
        subst hv2
        have HM3 := Lib.hid hm3
        obtain ⟨m1, hm1⟩ : ∃ m1, L - (k + 1) = m1 := ⟨_, rfl⟩
        obtain ⟨m2, hm2⟩ : ∃ m2, c - (k + 1) = m2 := ⟨_, rfl⟩
        rw [hm1, hm2] at R48 HRUN4
        clear hG2 hm1 hm2 hm3 hZ1 hR1 hX1 hra hrow hok hR2 hg2 hZ2 hX2 hzl hfl hone hi hz0 hz1 hz2 hZZ hb3 ho3 hv3 hA hb4 ho4 hv4 hrun2 hrun3 hrun4 hk hrt hget hr256 hrow4 hL hrd HR HRB hql
        go_upto_region 7 with ((with_reducible refine Pcs.wpl_appendV rfl 30 (.tmp 22) (.tmp 30) rfl u7 (.slice pd rd md) w2v w2 ?_ ?_ HRUN2.out ?_); rfl; rfl; clear c0 c6)
        have c0 := c2
        clear c2
        go_upto_region 9 with (first
          | ((with_reducible refine wpl_sliceV rfl 35 _ _ _ _ rfl (.slice (some ⟨q, 0, none⟩) L c) (.slice (some ⟨q, 0, none⟩) k c) none (some (.int .i64 k)) none ?_ ?_ ?_ ?_ (R38.out _) ?_); rfl; rfl; rfl; rfl)
          | ((with_reducible refine Pcs.wpl_appendV rfl 35 (.tmp 32) (.tmp 38) rfl (.slice none 0 0) (.slice (some ⟨q, 0, none⟩) k c) v1 w3 ?_ ?_ HRUN3.out ?_); rfl; rfl; clear c0))
        have c0 := c3
        clear c3
        go_wp2_with (first
          | ((with_reducible refine wpl_sliceV rfl 35 _ _ _ _ rfl (.slice (some ⟨q, 0, none⟩) L c) (.slice (some A) m1 m2) (some (.int .i64 ((k : Int) + 1))) none none ?_ ?_ ?_ ?_ (R48.out _) ?_); rfl; rfl; rfl; rfl)
          | ((with_reducible refine Pcs.wpl_appendV rfl 35 (.tmp 41) (.tmp 48) rfl v1 (.slice (some A) m1 m2) (.slice p2 m3 c2') w4 ?_ ?_ HRUN4.out ?_); rfl; rfl; clear c0)
          | ((with_reducible refine wpl_storeC rfl 35 (.tmp 51) (.tmp 49) rfl rfl g 0 56 (rbA (.slice (some ⟨q, 0, none⟩) L c) vt x.next) (rbA (.slice p2 m3 c2') vt x.next) (.slice p2 m3 c2') ?_ ?_ HROW4.out ?_ (by kernel_rfl) ?_ ?_ ?_); go_must (rfl; rfl; exact (show (0 : Nat) < 10 by decide); rfl; rfl; intro w5 hat5 hg5; have HAT5 := Lib.hid hat5; have HG5 := Lib.hid hg5; clear hat5 hg5)))
        have hr4 := Row.below HR2.out HB4.out
        have hlen : ({ x with held := h } : S).held.length - 1 = m3 := by show h.length - 1 = m3; rw [HLX.out, HM3.out]
        have hnew := HZ2.out.dropH HK.out.1 HB4.out (by rw [hlen]; exact HO4.out) HG5.out HAT5.out
        have hI := HIr.out
        refine ⟨⟨i + 1, acc ++ r.data, rm h r.tsn, .slice p2 m3 c2', _, by go_num, hr4.kept HG5.out (.inr (own_ne hr4 HROW4.out (by decide))), hnew, ⟨by omega, by rw [List.length_append]; have := HR256.out; omega, take_all hlt hn hI.2.2.1 HK.out.2.2 HK.out.2.1, take_pres hn hI.2.2.2 HK.out.2.1⟩, rx_step (rx_below HX2.out HB4.out) HG5.out HROW4.out (.inl rfl) HZ2.out.le, butX_grown (HG2.out.trans ((ButX.ofBelow HB4.out (X := fun _ => False)).mono (fun k e => e.elim))) HG5.out (fun q e => .inl (Option.some.inj e).symm)⟩, by simp [intOf]; omega⟩
    · have hltz : ¬ (i : Int) < (n : Int) := by omega
      have hltb : decide ((i : Int) < (n : Int)) = false := decide_eq_false hltz
      have hin : i = n := by have := HIr.out.1; omega
      subst hin
      have HTK := Lib.hid (show takeF i x.held t [] = (h, acc) by rw [HIr.out.2.2.1, Nat.sub_self]; rfl)
      go_wp2_with fail
      go_ret
      unfold OutIs
      rw [HTK.out]
      exact ⟨_, vh, rfl, HRr.out, HBr.out.rb HXr.out, HXr.out, HGr.out⟩
end Go.Proofs.Yteiiifonejkjbaa.Rb
