/-
  Contracts: matrix.twice, both Zeros.
-/
import Derived.Test.YtfialncobdinnaaDoorZeros1
namespace Go.Proofs.YtfialncobdinnaaDoor.Crc
open Go.RowKit Mem Cells Ops
set_option linter.unusedVariables false
set_option linter.unusedSimpArgs false

theorem rowM_set (ms : List Nat) (i v : Nat) : (rowM ms).set! i (.int .u32 (v : Int)) = rowM (ms.set i v) := by
  simp [rowM, Array.set!_eq_setIfInBounds, List.map_set]
theorem rowM_size (ms : List Nat) : (rowM ms).size = ms.length := by simp [rowM]
set_option maxRecDepth 100000 in
set_option maxHeartbeats 1600000 in
theorem twiceM (w : World) (g : Nat) (ms : List Nat) (k : Nat) (hat : At w g 32 (rowM ms)) (hr : Rep ms (steps k)) (hT : TabW w) :
    Calls Tryd.prog 9 #[.pointer (some ⟨g, 0, none⟩)] w fun e w' => ∃ g', e = .returned (.pointer (some ⟨g', 0, none⟩)) ∧ At w' g' 32 (rowM (twiceTo ms k 32)) ∧ Below w.heap.size w w' := by
  have HAT := Lib.hid (And.intro hat (And.intro hr hT))
  clear hat hr hT
  go_enter Tryd.func9, Tryd.ntmps9
  go_wp2_with (first
    | ((with_reducible refine wpl_allocAt rfl 32 rfl (rowM (List.replicate 32 0)) (by kernel_rfl) ?_); go_must (intro w1 hat1 hb1 hs1; have HA1 := Lib.hid (And.intro hat1 hb1); clear hs1 hat1 hb1)))
  go_loopw [5] (fun j wr => ∃ i : Nat, j = .int .i64 i ∧ i ≤ 32 ∧ At wr w.heap.size 32 (rowM (twiceTo ms k i)) ∧ Below w.heap.size w wr) (fun j _ => 32 - (intOf j).toNat)
  case atStart => exact ⟨0, rfl, by omega, by rw [twiceTo_zero]; exact HA1.out.1, HA1.out.2⟩
  case round =>
    obtain ⟨i, rfl, hi, hat, hbl⟩ := hrel
    by_cases hlt : i < 32
    · have hag := HAT.out.1.ext hbl
      have hm := hag.cell i
      rw [rowM_get ms i (by rw [HAT.out.2.1.1]; exact hlt)] at hm
      have hml := rep_lt HAT.out.2.1 i
      have HM := Lib.hid (rfl : ms.getD i 0 = ms.getD i 0)
      obtain ⟨mi, hmi⟩ : ∃ mi, ms.getD i 0 = mi := ⟨_, rfl⟩
      rw [hmi] at hm hml
      have PO := Lib.hid (ofM wr g ms k mi hag HAT.out.2.1 hml (HAT.out.2.2.below hbl))
      obtain ⟨o, ho⟩ : ∃ o, steps k mi = o := ⟨_, rfl⟩
      rw [ho] at PO
      have HV := Lib.hid (And.intro hmi ho)
      have HB := Lib.hid hbl
      have hlt' : (i : Int) < 32 := by omega
      have HL := Lib.hid (twiceTo_len ms k i)
      clear hag hmi ho hbl
      go_wp2_with (first
        | (go_at_call 10; go_must (refine PO.out.mono ?_; clear PO; rintro e w5 ⟨rfl, hb5⟩; have hat5 := hat.ext hb5; have HB5 := Lib.hid hb5; clear hat hm hb5))
        | ((with_reducible refine wpl_storeC rfl 22 (.tmp 16) (.tmp 15) rfl rfl w.heap.size i 32 (rowM (twiceTo ms k i)) (rowM ((twiceTo ms k i).set i o)) (.int .u32 o) ?_ ?_ hat5 ?_ (by kernel_rfl) rfl ?_ ?_); rfl; rfl; (rw [rowM_size, HL.out]; exact hlt); exact rowM_set _ _ _; go_must (intro w6 hat6 hg6; have HF := Lib.hid (And.intro hat6 hg6); clear hat6 hg6 hat5)))
      go_roundw
      case rel =>
        have hb5 := HB.out.trans (HB5.out.mono HB.out.size)
        refine ⟨i + 1, by go_num, by omega, ?_, below_grown hb5 HF.out.2 hb5.size (Nat.le_refl _)⟩
        have h := HF.out.1
        rw [← HV.out.2, ← HV.out.1, twiceTo_set ms k i hlt] at h
        exact h
      case measure => simp [intOf]; omega
    · obtain rfl : i = 32 := by omega
      clear hlt
      have HF := Lib.hid (And.intro hat hbl)
      clear hat hbl
      go_wp2_with fail
      go_ret
      exact ⟨_, rfl, HF.out⟩
section
variable {P : Program} {w : World} {ops : Array Oper} {rest : List Oper} {o : Oper} {a : Act} {Q : Exit → Act → World → Prop}
/-- A struct whose value is known. -/
theorem wpl_buildV (hgd : o.guard = none) (T : TypeId) (ps : Array (Nat × Operand)) (ho : o.op = .build T ps) (vs : Array (Nat × Value)) (hx : ps.map (fun (i, x) => (i, a.eval x)) = vs) (r : Value) (hrun : (Instr.build T vs).run P w = .ok r w)
    (h : wpList P ops Q rest (a.put o.dst r) w) : wpList P ops Q (o :: rest) a w := by
  refine wpList_plain hgd fun K hK => ?_
  unfold Oper.wp execOp
  simp only [ho, hx, Sem.run_bind, Sem.run_pure, Result.andThen_ok, hrun]
  exact hK _ _ h
end
theorem run_first (w : World) : (Instr.build 32 #[(0, .int .u32 2197175160)]).run Tryd.prog w = .ok (.agg (rowM (firstTo 1))) w := by
  rw [firstTo_one]
  kernel_rfl
theorem i64_and1 (n : Int) : bits .and .i64 n 1 = n % 2 := by
  have h1 : (BitVec.ofInt 64 1).toNat = 2 ^ 1 - 1 := by decide
  have key : (BitVec.ofInt 64 n &&& BitVec.ofInt 64 1).toNat = (n % ((2 ^ 64 : Nat) : Int)).toNat % 2 ^ 1 := by
    rw [BitVec.toNat_and, BitVec.toNat_ofInt, h1, Nat.and_two_pow_sub_one_eq_mod]
  show IntKind.i64.wrap ((BitVec.ofInt 64 n &&& BitVec.ofInt 64 1).toNat : Nat) = n % 2
  rw [key, IntKind.wrap_i64]
  omega
theorem zeros_step (k n c : Nat) (ho : n % 2 = 1) : steps ((k + k) * (n / 2)) (steps k c) = steps (k * n) c := by
  rw [← steps_add]
  congr 1
  have : n = 2 * (n / 2) + 1 := by omega
  calc k + (k + k) * (n / 2) = k * (2 * (n / 2) + 1) := by rw [Nat.mul_add, Nat.mul_one, Nat.add_mul, ← Nat.mul_assoc, Nat.mul_comm k 2, Nat.two_mul, Nat.add_mul]; omega
    _ = k * n := by rw [← this]
theorem zeros_even (k n c : Nat) (ho : n % 2 = 0) : steps ((k + k) * (n / 2)) c = steps (k * n) c := by
  congr 1
  have : n = 2 * (n / 2) := by omega
  calc (k + k) * (n / 2) = k * (2 * (n / 2)) := by rw [← Nat.mul_assoc, Nat.mul_comm k 2, Nat.two_mul]
    _ = k * n := by rw [← this]
set_option maxRecDepth 100000 in
set_option maxHeartbeats 3200000 in
theorem zerosP (sum : Nat) (n : Int) (w : World) (hs : sum < 4294967296) (hn : n ≤ 9223372036854775807) (hn0 : -9223372036854775808 ≤ n) (hT : TabW w) :
    Calls Tryd.prog 6 #[.int .u32 sum, .int .i64 n] w fun e w' => e = .returned (.int .u32 (zerosN sum n.toNat : Nat)) ∧ Below w.heap.size w w' := by
  have HT := Lib.hid hT
  have N1 := not32 hs
  have hc0 : 4294967295 - sum < 4294967296 := by omega
  obtain ⟨c0, hc0e⟩ : ∃ c0, 4294967295 - sum = c0 := ⟨_, rfl⟩
  rw [hc0e] at N1 hc0
  have HC0 := Lib.hid hc0e
  clear hT hc0e
  go_enter Tryd.func6, Tryd.ntmps6
  go_upto_region 3 with (first
    | (simp only [N1])
    | ((with_reducible refine wpl_buildV rfl 32 #[(0, .const (.int .u32 2197175160))] rfl #[(0, .int .u32 2197175160)] ?_ (.agg (rowM (firstTo 1))) (run_first _) ?_); go_must (simp [Act.eval]))
    | ((with_reducible refine wpl_boxAt rfl 32 (.tmp 10) rfl (rowM (firstTo 1)) ?_ ?_); rfl; go_must (intro w1 hat1 hb1 hs1; have HA1 := Lib.hid (And.intro hat1 hb1); clear hat1 hb1 hs1)))
  go_wp2_with fail
  go_loopw [7] (fun j wr => ∃ i : Nat, j = .int .i64 i ∧ 1 ≤ i ∧ i ≤ 32 ∧ At wr w.heap.size 32 (rowM (firstTo i)) ∧ Below w.heap.size w wr) (fun j _ => 32 - (intOf j).toNat)
  case atStart => exact ⟨1, rfl, by omega, by omega, HA1.out.1, HA1.out.2⟩
  case round =>
    obtain ⟨i, rfl, hi1, hi, hat, hbl⟩ := hrel
    have HB := Lib.hid hbl
    clear hbl
    by_cases hlt : i < 32
    · have hlt' : (i : Int) < 32 := by omega
      go_upto_region 6 with fail
      obtain ⟨i1, rfl⟩ : ∃ i1, i = i1 + 1 := ⟨i - 1, by omega⟩
      have hi1' : i1 < 31 := by omega
      have hsub : IntKind.i64.wrap (i1 : Int) = i1 := by rw [IntKind.wrap_i64]; omega
      have hnot : ¬ (32 : Int) ≤ (i1 : Int) + 1 := by omega
      have hpos : (0 : Int) ≤ (i1 : Int) + 1 := by omega
      have hpw : 2 ^ i1 < 4294967296 := pow_lt (by omega)
      have hshl : IntKind.u32.wrap ((2 : Int) ^ i1) = (2 : Int) ^ i1 := by
        have e : ((2 : Int) ^ i1) = ((2 ^ i1 : Nat) : Int) := by simp
        rw [e, IntKind.wrap_u32']
        clear e
        generalize 2 ^ i1 = pz at hpw
        omega
      obtain ⟨w0, rfl⟩ : ∃ w0, w0 = wr := ⟨_, rfl⟩
      refine Mono.wp_region_monoT 7 [some 16, some 17, some 18, some 19, some 20, some 21, some 22] [Mono.isV (.pointer (some ⟨w.heap.size, 0, none⟩)), Mono.isV (.int .i64 (↑i1 + 1)), Mono.isV (.int .i64 (↑i1 + 1)), Mono.isV (.int .i64 i1), Mono.isV (.int .u32 (2 ^ i1 : Nat)), Mono.isV (.pointer (some ⟨w.heap.size, 0, none⟩)), Mono.isV (.pointer (some ⟨w.heap.size, i1 + 1, none⟩))] (by kernel_rfl) (by kernel_rfl) ?_ ?_
      · simp only [Mono.OpGoals, List.take_succ_cons, List.take_zero, and_true]
        refine ⟨?_, ?_, ?_, ?_, ?_, ?_, ?_⟩
        · intro a u hbu hsu hdu
          refine Mono.if_want rfl ?_
          exact Mono.ok_move (.tmp 6) rfl (hsu 6 (by decide))
        · intro a u hbu hsu hdu
          refine Mono.if_want rfl ?_
          exact Mono.ok_move (.tmp 7) rfl (hsu 7 (by decide))
        · intro a u hbu hsu hdu
          refine Mono.if_want rfl ?_
          exact Mono.ok_move (.tmp 7) rfl (hsu 7 (by decide))
        · intro a u hbu hsu hdu
          refine Mono.if_want rfl ?_
          have z18 : a.eval (.tmp 18) = .int .i64 (↑i1 + 1) := Mono.dep_at hdu (i := 2) (d := 18) rfl rfl rfl
          simp [Act.eval] at z18
          exact Mono.ok_val (.int .i64 i1) (by simp [execOp, z18, go_sem, hsub, hlt', hnot, hpos]) rfl
        · intro a u hbu hsu hdu
          refine Mono.if_want rfl ?_
          have z19 : a.eval (.tmp 19) = .int .i64 i1 := Mono.dep_at hdu (i := 3) (d := 19) rfl rfl rfl
          simp [Act.eval] at z19
          exact Mono.ok_val (.int .u32 (2 ^ i1 : Nat)) (by simp [execOp, z19, go_sem, hshl]) rfl
        · intro a u hbu hsu hdu
          refine Mono.if_want rfl ?_
          have z16 : a.eval (.tmp 16) = .pointer (some ⟨w.heap.size, 0, none⟩) := Mono.dep_at hdu (i := 0) (d := 16) rfl rfl rfl
          simp [Act.eval] at z16
          exact Mono.ok_val (.pointer (some ⟨w.heap.size, 0, none⟩)) (by simp [execOp, z16, go_sem, hsub, hlt', hnot, hpos]) rfl
        · intro a u hbu hsu hdu
          refine Mono.if_want rfl ?_
          have z21 : a.eval (.tmp 21) = .pointer (some ⟨w.heap.size, 0, none⟩) := Mono.dep_at hdu (i := 5) (d := 21) rfl rfl rfl
          simp [Act.eval] at z21
          have z17 : a.eval (.tmp 17) = .int .i64 (↑i1 + 1) := Mono.dep_at hdu (i := 1) (d := 17) rfl rfl rfl
          simp [Act.eval] at z17
          exact Mono.ok_val (.pointer (some ⟨w.heap.size, i1 + 1, none⟩)) (by simp [execOp, z21, z17, go_sem, hsub, hlt', hnot, hpos]) rfl
      intro u hu
      simp only [Mono.Fin]
      rintro _ rfl _ rfl _ rfl _ rfl _ rfl _ rfl _ rfl
      simp [Act.put]
      have HU := Lib.hid (And.intro hu (HB.out.trans (hu.mono HB.out.size)))
      have hatu := hat.ext hu
      have HL := Lib.hid (firstTo_len (i1 + 1))
      clear hu hat hsub hnot hpos hshl
      have hpw' : ((2 : Int) ^ i1) = ((2 ^ i1 : Nat) : Int) := by simp
      rw [hpw']
      obtain ⟨pw, hpwe⟩ : ∃ pw, 2 ^ i1 = pw := ⟨_, rfl⟩
      rw [hpwe] at hpw ⊢
      have HPW := Lib.hid hpwe
      clear hpw' hpwe
      go_wp2_with (first
        | ((with_reducible refine wpl_storeC rfl 22 (.tmp 22) (.tmp 20) rfl rfl w.heap.size (i1 + 1) 32 (rowM (firstTo (i1 + 1))) (rowM ((firstTo (i1 + 1)).set (i1 + 1) pw)) (.int .u32 pw) ?_ ?_ hatu ?_ (by kernel_rfl) rfl ?_ ?_); rfl; rfl; (rw [rowM_size, HL.out]; omega); exact rowM_set _ _ _; go_must (intro w6 hat6 hg6; have HF := Lib.hid (And.intro hat6 hg6); clear hat6 hg6 hatu)))
      go_roundw
      case rel =>
        refine ⟨i1 + 1 + 1, by go_num, by omega, by omega, ?_, below_grown HU.out.2 HF.out.2 HU.out.2.size (Nat.le_refl _)⟩
        have h := HF.out.1
        rw [← HPW.out, show 2 ^ i1 = step (2 ^ (i1 + 1)) by rw [Nat.pow_succ, Nat.mul_comm, step_two], firstTo_set (i1 + 1) hlt] at h
        exact h
      case measure => simp [intOf]; omega
    · have hge : (32 : Int) ≤ i := by omega
      have HM := Lib.hid (And.intro (show At wr w.heap.size 32 (rowM (firstTo 32)) from (show i = 32 by omega) ▸ hat) HB.out)
      clear hat hlt hi hi1
      go_wp2_with fail
      go_loopw [6, 23] (fun st j wr => ∃ (i g : Nat) (ms : List Nat), j = .int .i64 i ∧ i ≤ 3 ∧ st = .pointer (some ⟨g, 0, none⟩) ∧ At wr g 32 (rowM ms) ∧ Rep ms (steps (2 ^ i)) ∧ Below w.heap.size w wr) (fun _ j _ => 3 - (intOf j).toNat)
      case atStart => exact ⟨0, w.heap.size, firstTo 32, rfl, by omega, rfl, HM.out.1, first_rep, HM.out.2⟩
      case round =>
        obtain ⟨i, g, ms, rfl, hi, rfl, hat, hrep, hbl⟩ := hrel
        by_cases hlt : i < 3
        · have PT := Lib.hid (twiceM wr g ms (2 ^ i) hat hrep (HT.out.below hbl))
          have HB2 := Lib.hid hbl
          have HR2 := Lib.hid hrep
          have hlt' : (i : Int) < 3 := by omega
          clear hat hrep hbl
          go_wp2_with (first
            | (go_at_call 9; go_must (refine PT.out.mono ?_; clear PT; rintro e w5 ⟨g5, rfl, hat5, hb5⟩; have H5 := Lib.hid (And.intro hat5 hb5); clear hat5 hb5)))
          go_roundw
          case rel => exact ⟨i + 1, g5, _, by go_num, by omega, rfl, H5.out.1, by have := twice_rep HR2.out; rwa [show 2 ^ i + 2 ^ i = 2 ^ (i + 1) by rw [Nat.pow_succ]; omega] at this, HB2.out.trans (H5.out.2.mono HB2.out.size)⟩
          case measure => simp [intOf]; omega
        · have hge3 : (3 : Int) ≤ i := by omega
          have e3 : i = 3 := by omega
          rw [e3] at hrep
          have H3 := Lib.hid (And.intro hat (And.intro hrep hbl))
          clear hat hrep hbl hlt hi e3
          go_wp2_with fail
          go_loopw [1, 5, 6] (fun jn jc st wr => ∃ (n' : Int) (c g k : Nat) (ms : List Nat), jn = .int .i64 n' ∧ n' ≤ 9223372036854775807 ∧ -9223372036854775808 ≤ n' ∧ jc = .int .u32 c ∧ c < 4294967296 ∧ st = .pointer (some ⟨g, 0, none⟩) ∧ At wr g 32 (rowM ms) ∧ Rep ms (steps k) ∧ steps (k * n'.toNat) c = steps (8 * n.toNat) c0 ∧ Below w.heap.size w wr) (fun jn _ _ _ => (intOf jn).toNat)
          case atStart => exact ⟨n, c0, g, 8, ms, rfl, hn, hn0, rfl, hc0, rfl, H3.out.1, H3.out.2.1, rfl, H3.out.2.2⟩
          case round =>
            obtain ⟨n', c, g4, k, ms4, rfl, hn1, hn2, rfl, hc, rfl, hat, hrep, heq, hbl⟩ := hrel
            have HE := Lib.hid (And.intro heq (And.intro hrep hbl))
            clear heq
            by_cases hpos : 0 < n'
            · obtain ⟨m, rfl⟩ : ∃ m : Nat, n' = m := ⟨n'.toNat, by omega⟩
              have PO := Lib.hid (ofM wr g4 ms4 k c hat hrep hc (HT.out.below hbl))
              have PT := Lib.hid (fun u (hu : Below wr.heap.size wr u) => twiceM u g4 ms4 k (hat.ext hu) hrep ((HT.out.below hbl).below hu))
              obtain ⟨c5, hc5⟩ : ∃ c5, steps k c = c5 := ⟨_, rfl⟩
              have hc5l : c5 < 4294967296 := by rw [← hc5]; exact steps_lt hc
              rw [hc5] at PO
              have HC5 := Lib.hid hc5
              have A1 := i64_and1 (m : Int)
              clear hat hrep hbl hc5
              by_cases hodd : m % 2 = 1
              · have hod : ((m : Int) % 2 == 1) = true := by simp; omega
                have HOD := Lib.hid hodd
                clear hodd
                go_wp2_with (first
                  | (simp only [A1])
                  | (go_at_call 10; go_must (refine PO.out.mono ?_; clear PO; rintro e w5 ⟨rfl, hb5⟩; have HB5 := Lib.hid hb5; clear hb5))
                  | (go_at_call 9; go_must (refine (PT.out _ HB5.out).mono ?_; clear PT; rintro e w6 ⟨g6, rfl, hat6, hb6⟩; have H6 := Lib.hid (And.intro hat6 hb6); clear hat6 hb6)))
                go_roundw
                case rel =>
                  obtain ⟨h1, h2, h3⟩ := HE.out
                  have hz : ((m : Int) / 2).toNat = m / 2 := by omega
                  refine ⟨(m : Int) / 2, c5, g6, k + k, _, rfl, by omega, by omega, rfl, hc5l, rfl, H6.out.1, twice_rep h2, ?_, (h3.trans (HB5.out.mono h3.size)).trans (H6.out.2.mono (Nat.le_trans h3.size HB5.out.size))⟩
                  rw [hz, ← HC5.out, zeros_step k m c HOD.out]
                  rw [show ((m : Nat) : Int).toNat = m by omega] at h1
                  exact h1
                case measure => simp [intOf]; omega
              · have hod : ((m : Int) % 2 == 1) = false := by simp; omega
                have HOD := Lib.hid hodd
                clear hodd
                go_wp2_with (first
                  | (simp only [A1])
                  | (go_at_call 9; go_must (refine (PT.out _ (Below.refl _ _)).mono ?_; clear PT; rintro e w6 ⟨g6, rfl, hat6, hb6⟩; have H6 := Lib.hid (And.intro hat6 hb6); clear hat6 hb6)))
                go_roundw
                case rel =>
                  obtain ⟨h1, h2, h3⟩ := HE.out
                  have hz : ((m : Int) / 2).toNat = m / 2 := by omega
                  refine ⟨(m : Int) / 2, c, g6, k + k, _, rfl, by omega, by omega, rfl, hc, rfl, H6.out.1, twice_rep h2, ?_, h3.trans (H6.out.2.mono h3.size)⟩
                  rw [hz, zeros_even k m c (by have := HOD.out; omega)]
                  rw [show ((m : Nat) : Int).toNat = m by omega] at h1
                  exact h1
                case measure => simp [intOf]; omega
            · have N2 := not32 hc
              have HB4 := Lib.hid (And.intro hat hbl)
              clear hat hrep hbl
              go_wp2_with (simp only [N2])
              go_ret
              obtain ⟨h1, h2, h3⟩ := HE.out
              rw [show n'.toNat = 0 by omega, Nat.mul_zero] at h1
              refine ⟨?_, h3⟩
              have e : zerosN sum n.toNat = 4294967295 - c := by
                unfold zerosN
                rw [HC0.out, ← h1]
                rfl
              rw [e]
              rfl
theorem zeros1R : ∀ w : World, (Instr.buildSlice 29 1 #[(0, .int .u8 0)]).run Tryd.prog w = .ok (.slice (some ⟨w.heap.size, 0, none⟩) 1 1) (w.alloc (.cells #[.int .u8 0] 5)) := fun w => by kernel_rfl
set_option maxRecDepth 100000 in
set_option maxHeartbeats 1600000 in
theorem zerosR (sum : Nat) (n : Int) (w : World) (hs : sum < 4294967296) (hn : n ≤ 9223372036854775807) (hn0 : -9223372036854775808 ≤ n) :
    Calls Tryd.prog 7 #[.int .u32 sum, .int .i64 n] w fun e w' => e = .returned (.int .u32 (zerosN sum n.toNat : Nat)) ∧ Below w.heap.size w w' := by
  go_enter Tryd.func7, Tryd.ntmps7
  go_wp2_with fail
  go_loopw [0, 5] (fun a j wr => ∃ (s i : Nat), a = .int .u32 s ∧ j = .int .i64 i ∧ s = zerosN sum i ∧ (i = 0 ∨ (i : Int) ≤ n) ∧ Below w.heap.size w wr) (fun _ j _ => (n - intOf j).toNat)
  case atStart => exact ⟨sum, 0, rfl, rfl, (zerosN_zero sum hs).symm, .inl rfl, Below.refl _ _⟩
  case round =>
    obtain ⟨s, i, rfl, rfl, hsz, hi, hbl⟩ := hrel
    have HB := Lib.hid hbl
    have hs2 : s < 4294967296 := by rw [hsz]; exact zerosN_lt _ _
    have HSZ := Lib.hid hsz
    clear hsz
    by_cases hlt : (i : Int) < n
    · have PM := Lib.hid (by have := moreR s _ [0] (wr.alloc (.cells #[.int .u8 0] 5)) hs2 (Reads.one .u8 wr 0 5) (by simp) (by simp); rwa [more_zero] at this)
      have HBA := Lib.hid ((Below.refl wr.heap.size wr).alloc (Nat.le_refl _) (.cells #[.int .u8 0] 5))
      obtain ⟨s2, hs2e⟩ : ∃ s2, zerosN s 1 = s2 := ⟨_, rfl⟩
      rw [hs2e] at PM
      have HS2 := Lib.hid hs2e
      clear hbl hs2e hi
      go_wp2_with (first
        | (go_at_call 11; go_must (refine PM.out.mono ?_; clear PM; rintro e w5 ⟨rfl, hw5⟩; have HW5 := Lib.hid hw5; clear hw5)))
      go_roundw
      case rel => exact ⟨s2, i + 1, rfl, by go_num, by rw [← HS2.out, HSZ.out, zerosN_add sum i 1 hs], .inr (by omega), by rw [HW5.out]; exact HB.out.trans (HBA.out.mono HB.out.size)⟩
      case measure => simp [intOf]; omega
    · clear hbl
      have HE := Lib.hid (show n.toNat = i by omega)
      clear hi
      go_wp2_with fail
      go_ret
      exact ⟨by rw [HE.out, ← HSZ.out]; rfl, HB.out⟩
end Go.Proofs.YtfialncobdinnaaDoor.Crc
