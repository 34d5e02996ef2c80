/-
  The reference's Get: the walk. (Printed by fillmono.py from src4.txt.)
-/
import Derived.Test.YtjfponhdlfhmbaaGet3
import Derived.Test.YtjfponhdlfhmbaaOps
import Derived.Deep.DeepMust
namespace Go.Proofs.Ytjfponhdlfhmbaa.Avp
open Go.RowKit Mem Cells Avps Wire
set_option linter.unusedVariables false
set_option linter.unusedSimpArgs false
attribute [local simp] Mono.DepFacts Mono.want Mono.isV Mono.anyV Mono.Fin Act.eval Act.put Region.binds

/-- The slot points to a new cell of an attribute, with nothing in it. -/
def cellP (B : Nat) : Mono.Prp := ⟨fun v u => ∃ g, v = .pointer (some ⟨g, 0, none⟩) ∧ B ≤ g ∧ At u g 41 zeroRow, fun _ _ _ ⟨g, h1, h2, h3⟩ hb => ⟨g, h1, h2, h3.ext hb⟩⟩
set_option maxRecDepth 100000 in
set_option maxHeartbeats 3200000 in
theorem refGetAll (v : Value) (xs : List Int) (w : World) (hr : Reads .u8 w v xs) (hwf : ∀ x ∈ xs, 0 ≤ x ∧ x ≤ 255) : Calls Try.prog 13 #[v] w (GetIs w (getOf xs)) := by
  obtain ⟨p, c, rfl, k1, k2, k3, _⟩ := id hr
  by_cases hbig : 4096 < xs.length
  · have e1 : getOf xs = ([], 0, 4) := by unfold getOf; rw [if_pos hbig]
    rw [e1]
    clear hr hwf
    go_enter Try.func13, Try.ntmps13
    go_wp2
    go_ret3
    exact ⟨_, rfl, OwnL.nil _ _ _, Below.refl _ _⟩
  · obtain ⟨R, hR⟩ : ∃ R, getOf xs = R := ⟨_, rfl⟩
    rw [hR]
    have hR2 : getF xs xs.length 0 [] = R := by rw [← hR]; unfold getOf; rw [if_neg hbig]
    clear hR
    have HR := Lib.hid hr
    have HW := Lib.hid hwf
    have HR2 := Lib.hid hR2
    clear hr hwf hR2
    go_enter Try.func13, Try.ntmps13
    go_wp2_with fail
    go_loopw [5, 6] (fun u i wr => ∃ (at_ f : Nat) (acc : List A), i = .int .i64 at_ ∧ at_ ≤ xs.length ∧ acc.length ≤ 64 ∧ OwnL 41 w.heap.size wr u acc ∧ Below w.heap.size w wr ∧ Hid (getF xs f at_ acc = R ∧ xs.length ≤ at_ + f)) (fun _ i _ => xs.length - (intOf i).toNat)
    case atStart => exact ⟨0, xs.length, [], rfl, by omega, by simp, OwnL.nil _ _ _, Below.refl _ _, Lib.hid ⟨HR2.out, by omega⟩⟩
    case round =>
      obtain ⟨at_, f, acc, rfl, hat, h64, hown, hbl, HF⟩ := hrel
      obtain ⟨pl, cl, zl, rfl, q1, q2, _, _, _, _⟩ := hown.reads
      by_cases hlt : at_ < xs.length
      · by_cases h64' : acc.length < 64
        · have hy8 : ((xs.drop at_).length : Int) = (xs.length : Int) - at_ := by rw [List.length_drop]; omega
          by_cases h8 : (xs.length : Int) - at_ < 8
          · have hE : oneE (xs.drop at_) = 3 := by unfold oneE; rw [if_pos (.inl (by omega))]
            have hRR : R = ([], (at_ : Int), 3) := by
              rw [← HF.out.1, getF_bad HF.out.2 hlt h64' (by rw [hE]; decide), hE]
            have HRR := Lib.hid hRR
            clear hE hRR hy8
            go_wp2_with fail
            go_ret3
            rw [HRR.out]
            exact ⟨_, rfl, OwnL.nil _ _ _, hbl⟩
          · obtain ⟨bl, off, x, rfl, hx, hx0, hltb, hc4⟩ := byte_at (HR.out.below hbl) HW.out (at_ + 4) (by omega)
            have hrw := HR.out.below hbl
            obtain ⟨b, hv⟩ : ∃ b, vend (xs.drop at_) = b := ⟨_, rfl⟩
            have hxd : (xs.drop at_).getD 4 0 = x := by rw [← hx]; simp [List.getD_eq_getElem?_getD, List.getElem?_drop]
            have h128 : decide (128 ≤ x) = b := by rw [← hv, ← hxd]; rfl
            obtain ⟨n, hn⟩ : ∃ n, getN (xs.drop at_) 5 3 = n := ⟨_, rfl⟩
            obtain ⟨cd, hcd⟩ : ∃ cd, getN (xs.drop at_) 0 4 = cd := ⟨_, rfl⟩
            obtain ⟨vx, hvx⟩ : ∃ vx, getN (xs.drop at_) 8 4 = vx := ⟨_, rfl⟩
            obtain ⟨pn, hpn⟩ : ∃ pn, padN n = pn := ⟨_, rfl⟩
            have hpn0 : 0 ≤ pn ∧ pn ≤ 3 := by rw [← hpn]; unfold padN; split <;> omega
            have hwy : ∀ z ∈ xs.drop at_, 0 ≤ z ∧ z ≤ 255 := fun z hz => HW.out z (List.mem_of_mem_drop hz)
            have hN := getN3 (xs.drop at_) hwy 5
            have hC := getN4 (xs.drop at_) hwy 0
            have hX := getN4 (xs.drop at_) hwy 8
            have hEE : (b = true → ¬ (xs.length : Int) - at_ < 12) → oneE (xs.drop at_) = (if n < headN b then 2 else if (xs.length : Int) - at_ < n + pn then 3 else if b = true ∧ vx = 0 then 2 else 0) := by
              intro h12
              have hno : ¬ (((xs.drop at_).length : Int) < 8 ∨ (b = true ∧ ((xs.drop at_).length : Int) < 12)) := by
                intro h
                rcases h with h | ⟨h1, h2⟩
                · omega
                · have := h12 h1
                  omega
              unfold oneE lenN
              rw [hv, if_neg hno, hn, hpn, hvx, hy8]
            rw [hn] at hN
            rw [hcd] at hC
            rw [hvx] at hX
            have RN5 := Lib.hid (fun u (hu : Reads .u8 u (.slice (some ⟨bl, off, none⟩) xs.length c) xs) => by have := refNum _ xs (at_ + 5) 3 u hu HW.out (by omega) (by omega) (by omega) (by rw [getN_drop xs at_ 5 3 (by omega) hat, hn]; omega); rwa [getN_drop xs at_ 5 3 (by omega) hat, hn] at this)
            have RN0 := Lib.hid (fun u (hu : Reads .u8 u (.slice (some ⟨bl, off, none⟩) xs.length c) xs) => by have := refNum _ xs (at_ + 0) 4 u hu HW.out (by omega) (by omega) (by omega) (by rw [getN_drop xs at_ 0 4 (by omega) hat, hcd]; omega); rwa [getN_drop xs at_ 0 4 (by omega) hat, hcd, Int.add_zero] at this)
            have RN8 := Lib.hid (fun u (hu : Reads .u8 u (.slice (some ⟨bl, off, none⟩) xs.length c) xs) => by have := refNum _ xs (at_ + 8) 4 u hu HW.out (by omega) (by omega) (by omega) (by rw [getN_drop xs at_ 8 4 (by omega) hat, hvx]; omega); rwa [getN_drop xs at_ 8 4 (by omega) hat, hvx] at this)
            have PD := Lib.hid (fun u => by have := refPad n u (by omega); rwa [hpn] at this)
            have HV := Lib.hid hv
            have HX := Lib.hid hxd
            have HN := Lib.hid hn
            have HCD := Lib.hid hcd
            have HVX := Lib.hid hvx
            have HPN := Lib.hid hpn
            have HY8 := Lib.hid hy8
            clear hv hxd hn hcd hvx hpn hwy hx hy8
            have k4 : at_ + 4 < xs.length := by omega
            have k41 : (at_ : Int) + 4 < xs.length := by omega
            cases b
            · have hE1 := hEE (fun h => by cases h)
              have HE := Lib.hid hE1
              clear hE1 hEE
              have e8 : headN false = 8 := rfl
              go_wp2_with fail
              refine (RN5.out _ hrw).mono ?_
              rintro e w1 ⟨rfl, hb1⟩
              have hbl1 := hbl.trans (hb1.mono hbl.size)
              have hown1 := hown.below hb1
              have hrw1 := hrw.below hb1
              have hc1 := (hb1.cell (p := ⟨bl, off + (at_ + 4), none⟩) hltb).trans hc4
              have hltb1 := Nat.lt_of_lt_of_le hltb hb1.size
              clear hbl hown hrw hc4 hltb hb1
              by_cases hnh : n < 8
              · have hE : oneE (xs.drop at_) = 2 := by rw [HE.out, if_pos (show n < headN false from hnh)]
                have hRR : R = ([], (at_ : Int), 2) := by rw [← HF.out.1, getF_bad HF.out.2 hlt h64' (by rw [hE]; decide), hE]
                have HRR := Lib.hid hRR
                clear hE hRR
                go_wp2_with fail
                go_ret3
                rw [HRR.out]
                exact ⟨_, rfl, OwnL.nil _ _ _, hbl1⟩
              · go_wp2_with fail
                refine (PD.out _).mono ?_
                rintro e w2 ⟨rfl, rfl⟩
                by_cases hsh : (xs.length : Int) - at_ < n + pn
                · have hE : oneE (xs.drop at_) = 3 := by rw [HE.out, if_neg (show ¬ n < headN false by rw [e8]; omega), if_pos hsh]
                  have hRR : R = ([], (at_ : Int), 3) := by rw [← HF.out.1, getF_bad HF.out.2 hlt h64' (by rw [hE]; decide), hE]
                  have HRR := Lib.hid hRR
                  clear hE hRR
                  go_wp2_with fail
                  go_ret3
                  rw [HRR.out]
                  exact ⟨_, rfl, OwnL.nil _ _ _, hbl1⟩
                · go_wp2_with fail
                  refine Mono.wp_region_monoT 22 [some 66, some 67, some 68, some 69, some 70, some 71, some 72, some 73, some 74, some 75, some 76, some 77, some 78, some 79, some 80, some 81, some 82, some 83, some 84, some 85, some 86, some 9] [Mono.isV (.slice (some ⟨bl, off, none⟩) xs.length c), Mono.isV (.int .i64 at_), Mono.isV (.int .i64 cd), Mono.isV (.int .u32 cd), Mono.isV (.slice (some ⟨bl, off, none⟩) xs.length c), Mono.isV (.int .i64 at_), Mono.isV (.int .i64 (at_ + 4)), Mono.isV (.pointer (some ⟨bl, off + (at_ + 4), none⟩)), Mono.isV (.int .u8 x), Mono.isV (.int .u8 (x / 64)), Mono.isV (.int .u8 (x / 64 % 2)), Mono.isV (.bool (decide (x / 64 % 2 = 1))), Mono.isV (.slice (some ⟨bl, off, none⟩) xs.length c), Mono.isV (.int .i64 at_), Mono.isV (.int .i64 (at_ + 4)), Mono.isV (.pointer (some ⟨bl, off + (at_ + 4), none⟩)), Mono.isV (.int .u8 x), Mono.isV (.int .u8 (x / 32)), Mono.isV (.int .u8 (x / 32 % 2)), Mono.isV (.bool (decide (x / 32 % 2 = 1))), Mono.isV (.agg #[.int .u32 cd, .int .u32 0, .bool (decide (x / 64 % 2 = 1)), .bool (decide (x / 32 % 2 = 1)), .slice none 0 0]), cellP w1.heap.size] (by kernel_rfl) (by kernel_rfl) ?_ ?_
                  · simp only [Mono.OpGoals, List.take_succ_cons, List.take_zero, and_true]
                    refine ⟨?_, ?_, ?_, ?_, ?_, ?_, ?_, ?_, ?_, ?_, ?_, ?_, ?_, ?_, ?_, ?_, ?_, ?_, ?_, ?_, ?_, ?_⟩
                    all_goals
                      intro a u hbu hsu hdu
                      have hru := hrw1.below hbu
                      have hcu := (hbu.cell (p := ⟨bl, off + (at_ + 4), none⟩) hltb1).trans hc1
                      simp at hdu hsu
                      simp [*, cellP]
                      go_wp2_with (go_at_call 15; refine (RN0.out _ hru).mono ?_; rintro e w9 ⟨rfl, hb9⟩)
                    all_goals first
                      | exact Below.refl _ _
                      | exact ⟨rfl, Below.refl _ _⟩
                      | exact ⟨trivial, Below.refl _ _⟩
                      | exact ⟨_, rfl, (Below.refl _ _).alloc (Nat.le_refl _) _, _, rfl, hbu.size, At.new u 41 zeroRow⟩
                      | exact hb9
                      | exact ⟨rfl, hb9⟩
                      | trace_state
                  · intro u hu
                    simp [cellP]
                    intro v g rfl hg hat
                    clear RN0 RN5 RN8
                    obtain ⟨ys, hys⟩ : ∃ ys, ((xs.drop ((at_ : Int) + 8).toNat).take ((at_ : Int) + n - (at_ + 8)).toNat) = ys := ⟨_, rfl⟩
                    have hysl : (ys.length : Int) = n - 8 := by rw [← hys]; simp; omega
                    have HYS := Lib.hid hys
                    clear hys
                    have hwl := hbl1.size
                    obtain ⟨i0, hi, hz0, hz1, hz2⟩ := info_parts info5
                    obtain ⟨i41, z41, i1, i2, i3, i4, i5⟩ := info41
                    have hEX : oneE (xs.drop at_) = (if false = true ∧ vx = 0 then 2 else 0) := by rw [HE.out, if_neg (show ¬ n < headN false by rw [e8]; omega), if_neg (show ¬ ((xs.length : Int) - at_ < n + pn) by omega)]; try simp
                    have HE2 := Lib.hid hEX
                    clear hEX HE
                    have K1 : ([] : List Int).length + ys.length ≤ maxLen := by simp [maxLen]; omega
                    have K2 : (([] : List Int).length + ys.length) * 1 ≤ 140737488355328 := by simp; omega
                    have l1 : (0 : Int) ≤ at_ + 8 := by omega
                    have l2 : (at_ : Int) + 8 ≤ at_ + n := by omega
                    have l3 : (at_ : Int) + n ≤ xs.length := by omega
                    have hEX : oneE (xs.drop at_) = 0 := by rw [HE2.out, if_neg (by simp)]
                    have hAX : oneA (xs.drop at_) = (⟨cd, 0, (decide (x / 64 % 2 = 1)), (decide (x / 32 % 2 = 1)), ys⟩ : A) := by
                      unfold oneA lenN
                      rw [if_pos hEX, HV.out, HN.out, HCD.out, HX.out, ← HYS.out, List.drop_drop, e8]
                      rw [show ((at_ : Int) + 8).toNat = at_ + (8 : Int).toNat by omega, show ((at_ : Int) + n - (at_ + 8)).toNat = (n - 8).toNat by omega]
                      rfl
                    have hNX : oneN (xs.drop at_) = n + pn := by unfold oneN lenN; rw [if_pos hEX, HN.out, HPN.out]
                    obtain ⟨f', hf1, hf2⟩ := getF_go HF.out.2 hlt h64' hEX
                    rw [hNX] at hf1
                    rw [hNX, hAX] at hf2
                    have HFF := Lib.hid hf2
                    clear hEX hAX hNX hf2
                    go_wp2_with (first | (refine Ops.wpl_storeR rfl 41 _ _ rfl rfl g 41 zeroRow #[.int .u32 cd, .int .u32 0, .bool (decide (x / 64 % 2 = 1)), .bool (decide (x / 32 % 2 = 1)), .slice none 0 0] rfl rfl hat (by kernel_rfl) rfl (by simp [Value.oneCell']) ?_; intro u2 hat2 hg2; have hu2 := hu.grown hg2 hu.size (fun k e => by cases e; exact hg); clear hat hu hg2; have hatn := hat2; have hu2sz := hu2.size; have hs2 := (hrw1.below hu2).below ((Below.refl u2.heap.size u2).alloc (Nat.le_refl _) (.cells #[] 5)); have hown0 := Row.alloc_nil .u8 5 u2 (Nat.le_refl u2.heap.size); have hatb := hat2.ext ((Below.refl u2.heap.size u2).alloc (Nat.le_refl _) (.cells #[] 5)); have hub := hu2.alloc hu2.size (.cells #[] 5); have hsz : u2.heap.size ≤ (u2.alloc (.cells #[] 5)).heap.size := by simp) | (refine wpl_sub rfl 23 (.tmp 100) (.tmp 103) (.tmp 106) rfl .u8 i0 Try.underlying23 hi hz1 _ xs (at_ + 8) (at_ + n) rfl rfl rfl hs2 l1 l2 l3 ?_; rw [HYS.out]; intro vs hvs; clear hs2) | (at_builtin; have _t := hown0; clear _t; go_must (refine wpl_append rfl _ _ 23 rfl .u8 u2.heap.size 5 1 i0 (.int .u8 0) Try.underlying23 hi hz0 hz1 hz2 rfl (.slice (some ⟨u2.heap.size, 0, none⟩) 0 0) _ [] ys rfl rfl hown0 hvs K1 K2 hsz ?_; intro v3 w3 hv3 hg3; obtain ⟨p3, c3, rfl, kk1, kk2, kk3, kk4⟩ := hv3.reads; rw [List.nil_append] at hv3; have hg4 : ∀ q, (some u2.heap.size : Option Nat) = some q → w1.heap.size ≤ q := (fun q e => by cases e; exact hu2sz); have hu3 := hub.grown hg3 hub.size hg4; have hat3 := hatb.grown (k := u2.heap.size) hg3 (Nat.ne_of_lt hatn.lt); have hlw3 := hg3.size; clear hown0 hvs hatb hub hg3 kk4 kk3)) | (refine Ops.wpl_storeC rfl 23 (.tmp 109) (.tmp 108) rfl rfl g 4 41 #[.int .u32 cd, .int .u32 0, .bool (decide (x / 64 % 2 = 1)), .bool (decide (x / 32 % 2 = 1)), .slice none 0 0] #[.int .u32 cd, .int .u32 0, .bool (decide (x / 64 % 2 = 1)), .bool (decide (x / 32 % 2 = 1)), .slice p3 ys.length c3] (.slice p3 ys.length c3) rfl rfl hat3 (show (4 : Nat) < 5 by decide) (by kernel_rfl) rfl rfl ?_; go_must (intro w4 hat4 hg4; have hu4 := hu3.grown hg4 hu3.size (fun k e => by cases e; exact hg); have hd4 := reads_grown hv3.reads hg4 (fun h0 q hq e => by obtain ⟨g', e1, _, e2, _⟩ := hv3.form h0; rw [e1] at e; have e3 : g' = q := Option.some.inj e; have e4 : g = q := Option.some.inj hq; have := hatn.lt; omega); have hap4 : 0 < ys.length → ∃ k, (Value.slice p3 ys.length c3).ownBlock = some k ∧ u2.heap.size ≤ k := (fun h0 => by obtain ⟨g', e1, _, e2, _⟩ := hv3.form h0; rw [e1]; exact ⟨g', rfl, e2⟩); have hlw4 := hg4.size; clear hat3 hu3 hv3 hg4)) | (refine wpList_load_row rfl 41 (.tmp 9) rfl g rfl 41 _ _ _ hat4 Try.underlying41 rfl (by kernel_rfl) ?_; go_must (have hal := (Below.refl w4.heap.size w4).alloc (Nat.le_refl _) (.cells #[.int .u32 cd, .int .u32 0, .bool (decide (x / 64 % 2 = 1)), .bool (decide (x / 32 % 2 = 1)), .slice p3 ys.length c3] 41); have hown5 := (hown1.below hu4).below hal; have hd5 := hd4.below hal; have hu5 := hu4.alloc hu4.size (.cells #[.int .u32 cd, .int .u32 0, .bool (decide (x / 64 % 2 = 1)), .bool (decide (x / 32 % 2 = 1)), .slice p3 ys.length c3] 41); have hat5 := At.new w4 41 #[.int .u32 cd, .int .u32 0, .bool (decide (x / 64 % 2 = 1)), .bool (decide (x / 32 % 2 = 1)), .slice p3 ys.length c3]; have hnews : ∀ j u, (flat [((⟨cd, 0, (decide (x / 64 % 2 = 1)), (decide (x / 32 % 2 = 1)), ys⟩ : A), Value.slice p3 ys.length c3)])[j]? = some u → (w4.alloc (.cells #[.int .u32 cd, .int .u32 0, .bool (decide (x / 64 % 2 = 1)), .bool (decide (x / 32 % 2 = 1)), .slice p3 ys.length c3] 41)).cell? ((⟨w4.heap.size, 0, none⟩ : Addr).add j) = some u := (fun j u hj => by rw [add_none, Nat.zero_add, hat5.cell j, ← hj, flat_one]; simp [row]); have hap5 : Apart (.slice pl acc.length cl) ((⟨cd, 0, (decide (x / 64 % 2 = 1)), (decide (x / 32 % 2 = 1)), ys⟩ : A), Value.slice p3 ys.length c3) := (fun h0 q hq e => by obtain ⟨k, e', hk⟩ := hap4 h0; have h1 := (hown1.lt q hq).2; have h2 := hu2sz; rw [e'] at e; have e3 : k = q := Option.some.inj e; omega); have hdd : ∀ y ∈ [((⟨cd, 0, (decide (x / 64 % 2 = 1)), (decide (x / 32 % 2 = 1)), ys⟩ : A), Value.slice p3 ys.length c3)], Reads .u8 (w4.alloc (.cells #[.int .u32 cd, .int .u32 0, .bool (decide (x / 64 % 2 = 1)), .bool (decide (x / 32 % 2 = 1)), .slice p3 ys.length c3] 41)) y.2 y.1.data ∧ Apart (.slice pl acc.length cl) y := (fun y hy => by rw [List.mem_singleton] at hy; subst hy; exact ⟨hd5, hap5⟩); have K4 : acc.length + [((⟨cd, 0, (decide (x / 64 % 2 = 1)), (decide (x / 32 % 2 = 1)), ys⟩ : A), Value.slice p3 ys.length c3)].length ≤ maxLen := (by simp [maxLen]; omega); have K5 : (acc.length + [((⟨cd, 0, (decide (x / 64 % 2 = 1)), (decide (x / 32 % 2 = 1)), ys⟩ : A), Value.slice p3 ys.length c3)].length) * 40 ≤ 140737488355328 := (by simp; omega); have K6 := (hbl1.trans (hu5.mono hbl1.size)).size; clear hat5 hd5 hap5 hal hd4 hap4)) | (at_builtin; have _t := hnews; clear _t; go_must (refine wpl_appendL rfl _ _ 22 rfl w.heap.size 41 40 i41 z41 Try.underlying22 i1 i2 i3 i4 i5 (.slice pl acc.length cl) ⟨w4.heap.size, 0, none⟩ 1 acc [((⟨cd, 0, (decide (x / 64 % 2 = 1)), (decide (x / 32 % 2 = 1)), ys⟩ : A), Value.slice p3 ys.length c3)] rfl rfl hown5 hnews hdd K4 K5 K6 ?_; intro v6 w6 hv6 hg6; have hol := (fun k e => (hown5.lt k e).1); have hbl6 := (hbl1.trans (hu5.mono hbl1.size)).grown hg6 (hbl1.trans (hu5.mono hbl1.size)).size hol; clear hown5 hnews hdd hg6 hol)) | (go_at_call 16; refine (PD.out _).mono ?_; rintro e w7 ⟨rfl, rfl⟩))
                    refine ⟨⟨at_ + (n + pn).toNat, f', acc ++ [(⟨cd, 0, (decide (x / 64 % 2 = 1)), (decide (x / 32 % 2 = 1)), ys⟩ : A)], by congr 1; omega, by omega, by simp; omega, hv6, hbl6, Lib.hid ⟨HFF.out.symm.trans HF.out.1, by omega⟩⟩, by simp only [intOf]; omega⟩
            · by_cases h12 : (xs.length : Int) - at_ < 12
              · have hE : oneE (xs.drop at_) = 3 := by unfold oneE; rw [if_pos (.inr ⟨HV.out, by rw [HY8.out]; exact h12⟩)]
                have hRR : R = ([], (at_ : Int), 3) := by rw [← HF.out.1, getF_bad HF.out.2 hlt h64' (by rw [hE]; decide), hE]
                have HRR := Lib.hid hRR
                clear hE hRR
                go_wp2_with fail
                go_ret3
                rw [HRR.out]
                exact ⟨_, rfl, OwnL.nil _ _ _, hbl⟩
              · have hE1 := hEE (fun _ => by omega)
                have HE := Lib.hid hE1
                clear hE1 hEE
                have e8 : headN true = 12 := rfl
                go_wp2_with fail
                refine (RN5.out _ hrw).mono ?_
                rintro e w1 ⟨rfl, hb1⟩
                have hbl1 := hbl.trans (hb1.mono hbl.size)
                have hown1 := hown.below hb1
                have hrw1 := hrw.below hb1
                have hc1 := (hb1.cell (p := ⟨bl, off + (at_ + 4), none⟩) hltb).trans hc4
                have hltb1 := Nat.lt_of_lt_of_le hltb hb1.size
                clear hbl hown hrw hc4 hltb hb1
                by_cases hnh : n < 12
                · have hE : oneE (xs.drop at_) = 2 := by rw [HE.out, if_pos (show n < headN true from hnh)]
                  have hRR : R = ([], (at_ : Int), 2) := by rw [← HF.out.1, getF_bad HF.out.2 hlt h64' (by rw [hE]; decide), hE]
                  have HRR := Lib.hid hRR
                  clear hE hRR
                  go_wp2_with fail
                  go_ret3
                  rw [HRR.out]
                  exact ⟨_, rfl, OwnL.nil _ _ _, hbl1⟩
                · go_wp2_with fail
                  refine (PD.out _).mono ?_
                  rintro e w2 ⟨rfl, rfl⟩
                  by_cases hsh : (xs.length : Int) - at_ < n + pn
                  · have hE : oneE (xs.drop at_) = 3 := by rw [HE.out, if_neg (show ¬ n < headN true by rw [e8]; omega), if_pos hsh]
                    have hRR : R = ([], (at_ : Int), 3) := by rw [← HF.out.1, getF_bad HF.out.2 hlt h64' (by rw [hE]; decide), hE]
                    have HRR := Lib.hid hRR
                    clear hE hRR
                    go_wp2_with fail
                    go_ret3
                    rw [HRR.out]
                    exact ⟨_, rfl, OwnL.nil _ _ _, hbl1⟩
                  · go_wp2_with fail
                    refine Mono.wp_region_monoT 22 [some 66, some 67, some 68, some 69, some 70, some 71, some 72, some 73, some 74, some 75, some 76, some 77, some 78, some 79, some 80, some 81, some 82, some 83, some 84, some 85, some 86, some 9] [Mono.isV (.slice (some ⟨bl, off, none⟩) xs.length c), Mono.isV (.int .i64 at_), Mono.isV (.int .i64 cd), Mono.isV (.int .u32 cd), Mono.isV (.slice (some ⟨bl, off, none⟩) xs.length c), Mono.isV (.int .i64 at_), Mono.isV (.int .i64 (at_ + 4)), Mono.isV (.pointer (some ⟨bl, off + (at_ + 4), none⟩)), Mono.isV (.int .u8 x), Mono.isV (.int .u8 (x / 64)), Mono.isV (.int .u8 (x / 64 % 2)), Mono.isV (.bool (decide (x / 64 % 2 = 1))), Mono.isV (.slice (some ⟨bl, off, none⟩) xs.length c), Mono.isV (.int .i64 at_), Mono.isV (.int .i64 (at_ + 4)), Mono.isV (.pointer (some ⟨bl, off + (at_ + 4), none⟩)), Mono.isV (.int .u8 x), Mono.isV (.int .u8 (x / 32)), Mono.isV (.int .u8 (x / 32 % 2)), Mono.isV (.bool (decide (x / 32 % 2 = 1))), Mono.isV (.agg #[.int .u32 cd, .int .u32 0, .bool (decide (x / 64 % 2 = 1)), .bool (decide (x / 32 % 2 = 1)), .slice none 0 0]), cellP w1.heap.size] (by kernel_rfl) (by kernel_rfl) ?_ ?_
                    · simp only [Mono.OpGoals, List.take_succ_cons, List.take_zero, and_true]
                      refine ⟨?_, ?_, ?_, ?_, ?_, ?_, ?_, ?_, ?_, ?_, ?_, ?_, ?_, ?_, ?_, ?_, ?_, ?_, ?_, ?_, ?_, ?_⟩
                      all_goals
                        intro a u hbu hsu hdu
                        have hru := hrw1.below hbu
                        have hcu := (hbu.cell (p := ⟨bl, off + (at_ + 4), none⟩) hltb1).trans hc1
                        simp at hdu hsu
                        simp [*, cellP]
                        go_wp2_with (go_at_call 15; refine (RN0.out _ hru).mono ?_; rintro e w9 ⟨rfl, hb9⟩)
                      all_goals first
                        | exact Below.refl _ _
                        | exact ⟨rfl, Below.refl _ _⟩
                        | exact ⟨trivial, Below.refl _ _⟩
                        | exact ⟨_, rfl, (Below.refl _ _).alloc (Nat.le_refl _) _, _, rfl, hbu.size, At.new u 41 zeroRow⟩
                        | exact hb9
                        | exact ⟨rfl, hb9⟩
                        | trace_state
                    · intro u hu
                      simp [cellP]
                      intro v g rfl hg hat
                      clear RN0 RN5
                      obtain ⟨ys, hys⟩ : ∃ ys, ((xs.drop ((at_ : Int) + 12).toNat).take ((at_ : Int) + n - (at_ + 12)).toNat) = ys := ⟨_, rfl⟩
                      have hysl : (ys.length : Int) = n - 12 := by rw [← hys]; simp; omega
                      have HYS := Lib.hid hys
                      clear hys
                      have hwl := hbl1.size
                      obtain ⟨i0, hi, hz0, hz1, hz2⟩ := info_parts info5
                      obtain ⟨i41, z41, i1, i2, i3, i4, i5⟩ := info41
                      have hEX : oneE (xs.drop at_) = (if true = true ∧ vx = 0 then 2 else 0) := by rw [HE.out, if_neg (show ¬ n < headN true by rw [e8]; omega), if_neg (show ¬ ((xs.length : Int) - at_ < n + pn) by omega)]; try simp
                      have HE2 := Lib.hid hEX
                      clear hEX HE
                      have K1 : ([] : List Int).length + ys.length ≤ maxLen := by simp [maxLen]; omega
                      have K2 : (([] : List Int).length + ys.length) * 1 ≤ 140737488355328 := by simp; omega
                      have l1 : (0 : Int) ≤ at_ + 12 := by omega
                      have l2 : (at_ : Int) + 12 ≤ at_ + n := by omega
                      have l3 : (at_ : Int) + n ≤ xs.length := by omega
                      go_wp2_with (refine Ops.wpl_storeR rfl 41 _ _ rfl rfl g 41 zeroRow #[.int .u32 cd, .int .u32 0, .bool (decide (x / 64 % 2 = 1)), .bool (decide (x / 32 % 2 = 1)), .slice none 0 0] rfl rfl hat (by kernel_rfl) rfl (by simp [Value.oneCell']) ?_; intro u2 hat2 hg2; have hu2 := hu.grown hg2 hu.size (fun k e => by cases e; exact hg); clear hat hu hg2)
                      have hs0 := hrw1.below hu2
                      refine (RN8.out _ hs0).mono ?_
                      rintro e w9 ⟨rfl, hb9⟩
                      have hat9 := hat2.ext hb9
                      have hu9 := hu2.trans (hb9.mono hu2.size)
                      clear RN8 hs0 hat2 hb9 hu2
                      by_cases hv0 : vx = 0
                      · have hE : oneE (xs.drop at_) = 2 := by rw [HE2.out, if_pos (by first | exact ⟨rfl, hv0⟩ | exact ⟨trivial, hv0⟩)]
                        have hRR : R = ([], (at_ : Int), 2) := by rw [← HF.out.1, getF_bad HF.out.2 hlt h64' (by rw [hE]; decide), hE]
                        have HRR := Lib.hid hRR
                        have hv0b : (vx == 0) = true := by simpa using hv0
                        clear hE hRR hv0
                        go_wp2_with (refine Ops.wpl_storeC rfl 39 (.tmp 94) (.tmp 93) rfl rfl g 1 41 #[.int .u32 cd, .int .u32 0, .bool (decide (x / 64 % 2 = 1)), .bool (decide (x / 32 % 2 = 1)), .slice none 0 0] #[.int .u32 cd, .int .u32 vx, .bool (decide (x / 64 % 2 = 1)), .bool (decide (x / 32 % 2 = 1)), .slice none 0 0] (.int .u32 vx) rfl rfl hat9 (show (1 : Nat) < 5 by decide) (by kernel_rfl) rfl rfl ?_; go_must (intro u2 hat2 hg2; have c2 := hat2.cell 1; simp at c2; have hu2 := hu9.grown hg2 hu9.size (fun k e => by cases e; exact hg); clear hat9 hu9 hg2))
                        go_ret3
                        rw [HRR.out]
                        exact ⟨_, rfl, OwnL.nil _ _ _, hbl1.trans (hu2.mono hbl1.size)⟩
                      · have hv0b : (vx == 0) = false := by simpa using hv0
                        have hEX : oneE (xs.drop at_) = 0 := by rw [HE2.out, if_neg (by rintro ⟨_, h0⟩; exact hv0 h0)]
                        have hAX : oneA (xs.drop at_) = (⟨cd, vx, (decide (x / 64 % 2 = 1)), (decide (x / 32 % 2 = 1)), ys⟩ : A) := by
                          unfold oneA lenN
                          rw [if_pos hEX, HV.out, HN.out, HCD.out, HX.out, HVX.out, ← HYS.out, List.drop_drop, e8]
                          rw [show ((at_ : Int) + 12).toNat = at_ + (12 : Int).toNat by omega, show ((at_ : Int) + n - (at_ + 12)).toNat = (n - 12).toNat by omega]
                          rfl
                        have hNX : oneN (xs.drop at_) = n + pn := by unfold oneN lenN; rw [if_pos hEX, HN.out, HPN.out]
                        obtain ⟨f', hf1, hf2⟩ := getF_go HF.out.2 hlt h64' hEX
                        rw [hNX] at hf1
                        rw [hNX, hAX] at hf2
                        have HFF := Lib.hid hf2
                        clear hEX hAX hNX hf2 hv0
                        go_wp2_with (first | (refine Ops.wpl_storeC rfl 39 (.tmp 94) (.tmp 93) rfl rfl g 1 41 #[.int .u32 cd, .int .u32 0, .bool (decide (x / 64 % 2 = 1)), .bool (decide (x / 32 % 2 = 1)), .slice none 0 0] #[.int .u32 cd, .int .u32 vx, .bool (decide (x / 64 % 2 = 1)), .bool (decide (x / 32 % 2 = 1)), .slice none 0 0] (.int .u32 vx) rfl rfl hat9 (show (1 : Nat) < 5 by decide) (by kernel_rfl) rfl rfl ?_; go_must (intro u2 hat2 hg2; have c2 := hat2.cell 1; simp at c2; have hu2 := hu9.grown hg2 hu9.size (fun k e => by cases e; exact hg); have hatn := hat2; have hu2sz := hu2.size; have hs2 := (hrw1.below hu2).below ((Below.refl u2.heap.size u2).alloc (Nat.le_refl _) (.cells #[] 5)); have hown0 := Row.alloc_nil .u8 5 u2 (Nat.le_refl u2.heap.size); have hatb := hat2.ext ((Below.refl u2.heap.size u2).alloc (Nat.le_refl _) (.cells #[] 5)); have hub := hu2.alloc hu2.size (.cells #[] 5); have hsz : u2.heap.size ≤ (u2.alloc (.cells #[] 5)).heap.size := (by simp); clear hat9 hu9 hg2)) | (refine wpl_sub rfl 23 (.tmp 100) (.tmp 103) (.tmp 106) rfl .u8 i0 Try.underlying23 hi hz1 _ xs (at_ + 12) (at_ + n) rfl rfl rfl hs2 l1 l2 l3 ?_; rw [HYS.out]; intro vs hvs; clear hs2) | (at_builtin; have _t := hown0; clear _t; go_must (refine wpl_append rfl _ _ 23 rfl .u8 u2.heap.size 5 1 i0 (.int .u8 0) Try.underlying23 hi hz0 hz1 hz2 rfl (.slice (some ⟨u2.heap.size, 0, none⟩) 0 0) _ [] ys rfl rfl hown0 hvs K1 K2 hsz ?_; intro v3 w3 hv3 hg3; obtain ⟨p3, c3, rfl, kk1, kk2, kk3, kk4⟩ := hv3.reads; rw [List.nil_append] at hv3; have hg4 : ∀ q, (some u2.heap.size : Option Nat) = some q → w1.heap.size ≤ q := (fun q e => by cases e; exact hu2sz); have hu3 := hub.grown hg3 hub.size hg4; have hat3 := hatb.grown (k := u2.heap.size) hg3 (Nat.ne_of_lt hatn.lt); have hlw3 := hg3.size; clear hown0 hvs hatb hub hg3 kk4 kk3)) | (refine Ops.wpl_storeC rfl 23 (.tmp 109) (.tmp 108) rfl rfl g 4 41 #[.int .u32 cd, .int .u32 vx, .bool (decide (x / 64 % 2 = 1)), .bool (decide (x / 32 % 2 = 1)), .slice none 0 0] #[.int .u32 cd, .int .u32 vx, .bool (decide (x / 64 % 2 = 1)), .bool (decide (x / 32 % 2 = 1)), .slice p3 ys.length c3] (.slice p3 ys.length c3) rfl rfl hat3 (show (4 : Nat) < 5 by decide) (by kernel_rfl) rfl rfl ?_; go_must (intro w4 hat4 hg4; have hu4 := hu3.grown hg4 hu3.size (fun k e => by cases e; exact hg); have hd4 := reads_grown hv3.reads hg4 (fun h0 q hq e => by obtain ⟨g', e1, _, e2, _⟩ := hv3.form h0; rw [e1] at e; have e3 : g' = q := Option.some.inj e; have e4 : g = q := Option.some.inj hq; have := hatn.lt; omega); have hap4 : 0 < ys.length → ∃ k, (Value.slice p3 ys.length c3).ownBlock = some k ∧ u2.heap.size ≤ k := (fun h0 => by obtain ⟨g', e1, _, e2, _⟩ := hv3.form h0; rw [e1]; exact ⟨g', rfl, e2⟩); have hlw4 := hg4.size; clear hat3 hu3 hv3 hg4)) | (refine wpList_load_row rfl 41 (.tmp 9) rfl g rfl 41 _ _ _ hat4 Try.underlying41 rfl (by kernel_rfl) ?_; go_must (have hal := (Below.refl w4.heap.size w4).alloc (Nat.le_refl _) (.cells #[.int .u32 cd, .int .u32 vx, .bool (decide (x / 64 % 2 = 1)), .bool (decide (x / 32 % 2 = 1)), .slice p3 ys.length c3] 41); have hown5 := (hown1.below hu4).below hal; have hd5 := hd4.below hal; have hu5 := hu4.alloc hu4.size (.cells #[.int .u32 cd, .int .u32 vx, .bool (decide (x / 64 % 2 = 1)), .bool (decide (x / 32 % 2 = 1)), .slice p3 ys.length c3] 41); have hat5 := At.new w4 41 #[.int .u32 cd, .int .u32 vx, .bool (decide (x / 64 % 2 = 1)), .bool (decide (x / 32 % 2 = 1)), .slice p3 ys.length c3]; have hnews : ∀ j u, (flat [((⟨cd, vx, (decide (x / 64 % 2 = 1)), (decide (x / 32 % 2 = 1)), ys⟩ : A), Value.slice p3 ys.length c3)])[j]? = some u → (w4.alloc (.cells #[.int .u32 cd, .int .u32 vx, .bool (decide (x / 64 % 2 = 1)), .bool (decide (x / 32 % 2 = 1)), .slice p3 ys.length c3] 41)).cell? ((⟨w4.heap.size, 0, none⟩ : Addr).add j) = some u := (fun j u hj => by rw [add_none, Nat.zero_add, hat5.cell j, ← hj, flat_one]; simp [row]); have hap5 : Apart (.slice pl acc.length cl) ((⟨cd, vx, (decide (x / 64 % 2 = 1)), (decide (x / 32 % 2 = 1)), ys⟩ : A), Value.slice p3 ys.length c3) := (fun h0 q hq e => by obtain ⟨k, e', hk⟩ := hap4 h0; have h1 := (hown1.lt q hq).2; have h2 := hu2sz; rw [e'] at e; have e3 : k = q := Option.some.inj e; omega); have hdd : ∀ y ∈ [((⟨cd, vx, (decide (x / 64 % 2 = 1)), (decide (x / 32 % 2 = 1)), ys⟩ : A), Value.slice p3 ys.length c3)], Reads .u8 (w4.alloc (.cells #[.int .u32 cd, .int .u32 vx, .bool (decide (x / 64 % 2 = 1)), .bool (decide (x / 32 % 2 = 1)), .slice p3 ys.length c3] 41)) y.2 y.1.data ∧ Apart (.slice pl acc.length cl) y := (fun y hy => by rw [List.mem_singleton] at hy; subst hy; exact ⟨hd5, hap5⟩); have K4 : acc.length + [((⟨cd, vx, (decide (x / 64 % 2 = 1)), (decide (x / 32 % 2 = 1)), ys⟩ : A), Value.slice p3 ys.length c3)].length ≤ maxLen := (by simp [maxLen]; omega); have K5 : (acc.length + [((⟨cd, vx, (decide (x / 64 % 2 = 1)), (decide (x / 32 % 2 = 1)), ys⟩ : A), Value.slice p3 ys.length c3)].length) * 40 ≤ 140737488355328 := (by simp; omega); have K6 := (hbl1.trans (hu5.mono hbl1.size)).size; clear hat5 hd5 hap5 hal hd4 hap4)) | (at_builtin; have _t := hnews; clear _t; go_must (refine wpl_appendL rfl _ _ 22 rfl w.heap.size 41 40 i41 z41 Try.underlying22 i1 i2 i3 i4 i5 (.slice pl acc.length cl) ⟨w4.heap.size, 0, none⟩ 1 acc [((⟨cd, vx, (decide (x / 64 % 2 = 1)), (decide (x / 32 % 2 = 1)), ys⟩ : A), Value.slice p3 ys.length c3)] rfl rfl hown5 hnews hdd K4 K5 K6 ?_; intro v6 w6 hv6 hg6; have hol := (fun k e => (hown5.lt k e).1); have hbl6 := (hbl1.trans (hu5.mono hbl1.size)).grown hg6 (hbl1.trans (hu5.mono hbl1.size)).size hol; clear hown5 hnews hdd hg6 hol)) | (go_at_call 16; refine (PD.out _).mono ?_; rintro e w7 ⟨rfl, rfl⟩))
                        refine ⟨⟨at_ + (n + pn).toNat, f', acc ++ [(⟨cd, vx, (decide (x / 64 % 2 = 1)), (decide (x / 32 % 2 = 1)), ys⟩ : A)], by congr 1; omega, by omega, by simp; omega, hv6, hbl6, Lib.hid ⟨HFF.out.symm.trans HF.out.1, by omega⟩⟩, by simp only [intOf]; omega⟩
        · obtain h64e : acc.length = 64 := by omega
          have hge : (64 : Int) ≤ acc.length := by omega
          go_wp2_with fail
          go_ret3
          have hRR : R = ([], (at_ : Int), 4) := by rw [← HF.out.1, getF_full HF.out.2 hlt (by omega)]
          rw [hRR]
          exact ⟨_, rfl, OwnL.nil _ _ _, hbl⟩
      · obtain rfl : at_ = xs.length := by omega
        go_wp2_with fail
        go_ret3
        have hRR : R = (acc, 0, 0) := by rw [← HF.out.1, getF_end (by omega)]
        rw [hRR]
        exact ⟨_, rfl, hown, hbl⟩
end Go.Proofs.Ytjfponhdlfhmbaa.Avp
