/-
  FragJoins (4): the walk.
-/
import Derived.Test.YteiiifonejkjbaaCut3
namespace Go.Proofs.Yteiiifonejkjbaa.Chunk
open Go.RowKit Go.Shelf Mem Cells Ops Pcs
set_option linter.unusedVariables false
set_option linter.unusedSimpArgs false
attribute [local go_sem] Oper.semAt_some

def TrueB (w : World) : Ending → World → Prop := fun e w' => e = .returned (.bool true) ∧ Below w.heap.size w w'
theorem PE_get (s : Nat) (sq : Int) (un : Bool) (xs : List Int) (sz k i : Nat) (h : i < k) : (PE s sq un xs sz k)[i]? = some ⟨0, s, sq, decide (i = 0), decide (i + 1 = k), un, (xs.drop (i * sz)).take sz⟩ := by
  simp [PE, h]
theorem str_add (xs ys : List Int) : strOfNums xs ++ strOfNums ys = strOfNums (xs ++ ys) := by
  apply ByteArray.ext
  simp [strOfNums, ByteArray.data_append]
theorem str_size (xs : List Int) : (strOfNums xs).size = xs.length := by simp [strOfNums, ByteArray.size]

set_option maxRecDepth 100000 in
set_option maxHeartbeats 1600000 in
theorem joins (w : World) (s z : Int) (v : Value) (xs : List Int) (un : Bool) (hr : Reads .u8 w v xs) (hb : xs.length ≤ 140737488355328) (hs : 0 ≤ s ∧ s ≤ 65535) (hz : -9223372036854775808 ≤ z ∧ z ≤ 9223372036854775807) :
    Calls Try.prog 4 #[.agg #[.int .u16 s, v], .bool un, .int .i64 z] w (TrueB w) := by
  obtain ⟨p, c, hv, h1, h2, h3, h4⟩ := id hr
  obtain ⟨L, hL⟩ : ∃ L, xs.length = L := ⟨_, rfl⟩
  rw [hL] at hv
  subst hv
  have HL := Lib.hid hL
  have HR := Lib.hid hr
  have HBB := Lib.hid hb
  have HC := Lib.hid h2
  have HC1 := Lib.hid h1
  clear hr h1 h2 h3 h4 hb hL
  obtain ⟨W0, hW0⟩ : ∃ W0, w = W0 := ⟨w, rfl⟩
  rw [hW0] at HR ⊢
  clear hW0
  go_enter Try.func4, Try.ntmps4
  go_upto_region 4 with (first
    | ((with_reducible refine wpl_boxAt rfl 32 (.tmp 0) rfl #[.int .u16 s, .slice p L c] ?_ ?_); rfl; go_must (intro w1 hat1 hb1 hs1; have HB1 := Lib.hid hb1; have HS1 := Lib.hid hs1; clear hb1 hs1))
    | (go_at_call 9; go_must (refine (newC _).mono ?_; rintro e w2 ⟨rfl, hatC2, hb2, hs2⟩; have hat2 := hat1.ext hb2; have HB2 := Lib.hid (HB1.out.trans (hb2.mono HB1.out.size)); have HS2 := Lib.hid hs2; clear hb2 hs2 hat1))
    | (go_at_call 14; go_must (refine (answers _).mono ?_; rintro e w3 ⟨rfl, hb3⟩; have hatC3 := hatC2.ext hb3; have hat3 := hat2.ext hb3; have HB3 := Lib.hid (HB2.out.trans (hb3.mono HB2.out.size)); have HS3 := Lib.hid hb3.size; clear hb3 hat2 hatC2)))
  by_cases hE : cutE false L s z = 0
  · have hL0 : 0 < L := by unfold cutE at hE; split at hE; omega; rename_i h; simp at h; omega
    have hLb : L ≤ 4096 := by unfold cutE at hE; split at hE; omega; split at hE; omega; omega
    obtain ⟨s', hs1, hs8⟩ : ∃ s' : Nat, s = (s' : Int) ∧ s' < 8 := ⟨s.toNat, by unfold cutE at hE; split at hE; omega; rename_i h; simp at h; omega, by unfold cutE at hE; split at hE; omega; rename_i h; simp at h; omega⟩
    obtain ⟨sz, hz1, hz0, hz2⟩ : ∃ sz : Nat, z = (sz : Int) ∧ 0 < sz ∧ sz ≤ 256 := ⟨z.toNat, by unfold cutE at hE; split at hE; omega; rename_i h; simp at h; omega, by unfold cutE at hE; split at hE; omega; rename_i h; simp at h; omega, by unfold cutE at hE; split at hE; omega; rename_i h; simp at h; omega⟩
    subst hs1 hz1
    clear hE
    go_upto_region 7 with (first
      | ((with_reducible refine wpl_loadAt rfl 32 (.tmp 3) rfl W0.heap.size 32 #[.int .u16 s', .slice p L c] hat3 _ Try.underlying32 rfl (by kernel_rfl) ?_ ?_); rfl)
      | (go_at_call 11; go_must (refine (own11 _ s' _ xs (HR.out.below HB3.out) HBB.out).mono ?_; rintro e w4 ⟨v4, rfl, hv4, hb4⟩; obtain ⟨p4, c4, hvv, _⟩ := id hv4.reads; rw [HL.out] at hvv; subst hvv; have hatC4 := hatC3.ext hb4; have hat4 := hat3.ext hb4; have HB4 := Lib.hid (HB3.out.trans (hb4.mono HB3.out.size)); have HV4 := Lib.hid hv4; clear hb4 hv4 hatC3 hat3))
      | (go_at_call 10; go_must (refine (cut_ok _ _ _ hatC4 s' hs8 _ L sz xs un HV4.out.reads HL.out hL0 hLb hz0 hz2).mono ?_; rintro e w5 ⟨g, cg, k, rfl, k1, k2, k3, k4, hq, hat5, hb5⟩; have HQ := Lib.hid hq; have HB5 := Lib.hid hb5; have K1 := Lib.hid k1; have K2 := Lib.hid k2; have K3 := Lib.hid k3; have K4 := Lib.hid k4; clear k1 k2 k3 k4 hq hat5 hb5)))
    obtain ⟨n, hn⟩ : ∃ n, k + 1 = n := ⟨_, rfl⟩
    rw [hn] at K1 K3 HQ ⊢
    have K5 : Hid ((n - 1) * sz < L) := by have := K2.out; rw [← hn]; exact this
    have K6 : Hid (0 < n) := by show 0 < n; omega
    have hnb : n ≤ 4096 := by
      have h1 := K5.out
      have h2 : (n - 1) * 1 ≤ (n - 1) * sz := Nat.mul_le_mul_left _ hz0
      have := K6.out
      omega
    clear hn K2
    have HB := Lib.hid (HB4.out.trans (HB5.out.below (B := W0.heap.size) (fun k e => by rw [e]; have := HS1.out; omega) HB4.out.size))
    have hat5 : At w5 W0.heap.size 32 #[.int .u16 s', .slice p L c] := by
      have h1 := hat4
      unfold At at h1 ⊢
      rw [HB5.out.block _ hat4.lt (fun e => by have := HS1.out; omega)]
      exact h1
    have HAT := Lib.hid hat5
    clear hat4 hatC4
    go_upto_region 9 with fail
    go_loopw [10, 11] (fun u i wr => ∃ j : Nat, Hid (j ≤ n) ∧ i = .int .i64 (j : Int) ∧ u = .string (strOfNums (xs.take (j * sz))) ∧ wr = w5) (fun _ i _ => n - (intOf i).toNat)
    case atStart => exact ⟨0, Nat.zero_le _, rfl, by simp [strOfNums], rfl⟩
    case round =>
      obtain ⟨j, hj, rfl, rfl, rfl⟩ := hrel
      by_cases hlt : j < n
      · have hltz : (j : Int) < (n : Int) := by exact_mod_cast hlt
        have hltb : decide ((j : Int) < (n : Int)) = true := decide_eq_true hltz
        obtain ⟨pe, me, hra, hrow⟩ := OwnQ.elem HQ.out j _ (PE_get s' _ un xs sz n j hlt)
        obtain ⟨m, hm⟩ : ∃ m, ((xs.drop (j * sz)).take sz).length = m := ⟨_, rfl⟩
        have hmv : m = min sz (L - j * sz) := by rw [← hm, ← HL.out]; simp
        have hjn : j * sz ≤ (n - 1) * sz := Nat.mul_le_mul_right _ (by omega)
        have hm0 : 0 < m := by rw [hmv]; have := K5.out; omega
        have hmb : m ≤ 256 := by rw [hmv]; omega
        obtain ⟨be, hbe⟩ : ∃ be, decide (j = 0) = be := ⟨_, rfl⟩
        obtain ⟨en, hen⟩ : ∃ en, decide (j + 1 = n) = en := ⟨_, rfl⟩
        have be1 : ((j : Int) == 0) = be := by rw [← hbe]; rw [Bool.eq_iff_iff]; simp
        have en1 : ((j : Int) == (n : Int) - 1) = en := by rw [← hen]; rw [Bool.eq_iff_iff]; simp; omega
        have hem : en = true ∨ m = sz := by
          rw [← hen, hmv]
          by_cases e : j + 1 = n
          · exact .inl (by simp [e])
          · right
            have h1 : (j + 1) * sz ≤ (n - 1) * sz := Nat.mul_le_mul_right _ (by omega)
            have h2 := K5.out
            rw [Nat.add_mul] at h1
            omega
        have c3 := hra 3 _ rfl
        have c4 := hra 4 _ rfl
        have c6 := hra 6 _ rfl
        have hs := string30 hrow.reads
        simp only [hm, hbe, hen] at c3 c4 c6 hs
        have mz0 : ((m : Int) == 0) = false := by simp; omega
        have HX := Lib.hid hm
        clear hra hrow hm hbe hen hmv hjn
        obtain ⟨sa, hsa⟩ : ∃ sa, strOfNums (xs.take (j * sz)) = sa := ⟨_, rfl⟩
        obtain ⟨sb, hsb⟩ : ∃ sb, strOfNums ((xs.drop (j * sz)).take sz) = sb := ⟨_, rfl⟩
        have hza : sa.size ≤ 4096 := by rw [← hsa, str_size, List.length_take, HL.out]; omega
        have hzb : sb.size ≤ 4096 := by rw [← hsb, str_size, HX.out]; omega
        have hzs : ¬ (9223372036854775807 : Int) < (sa.size : Int) + (sb.size : Int) := by omega
        have HNEW : Hid (sa ++ sb = strOfNums (xs.take ((j + 1) * sz))) := by
          show sa ++ sb = _
          rw [← hsa, ← hsb, str_add, Nat.add_mul, Nat.one_mul, List.take_add]
        rw [hsa]
        rw [hsb] at hs
        clear hsa hsb
        rcases hem with rfl | rfl
        · obtain ⟨q, hq⟩ : ∃ q, ((m : Int) == (sz : Int)) = q := ⟨_, rfl⟩
          have hq2 : ((m : Int) != (sz : Int)) = !q := by rw [bne, hq]
          cases q
          · go_wp2_with fail
            exact ⟨⟨j + 1, hlt, by simp, by rw [HNEW.out], trivial⟩, by simp [intOf]; omega⟩
          · go_wp2_with fail
            exact ⟨⟨j + 1, hlt, by simp, by rw [HNEW.out], trivial⟩, by simp [intOf]; omega⟩
        · go_wp2_with fail
          exact ⟨⟨j + 1, hlt, by simp, by rw [HNEW.out], trivial⟩, by simp [intOf]; omega⟩
      · have hltz : ¬ (j : Int) < (n : Int) := by omega
        have hltb : decide ((j : Int) < (n : Int)) = false := decide_eq_false hltz
        have hjj : j = n := by have := hj; unfold Hid at this; omega
        have hall : xs.take (j * sz) = xs := by rw [hjj]; exact List.take_of_length_le (by rw [HL.out]; exact K1.out)
        rw [hall]
        have hs := string30 (HR.out.below HB.out)
        have m1 := HAT.out.cell 1
        simp at m1
        go_wp2_with fail
        go_ret
        exact ⟨rfl, HB.out⟩
  · obtain ⟨r, hrr⟩ : ∃ r, cutE false L s z = r := ⟨_, rfl⟩
    have HRR := Lib.hid hrr
    have HE := Lib.hid hE
    rw [hrr] at hE
    have hen : (r == 0) = false := beq_eq_false_iff_ne.2 hE
    have hen2 : (r != 0) = true := by rw [bne, hen]; rfl
    clear hrr hE
    go_wp2_with (first
      | ((with_reducible refine wpl_loadAt rfl 32 (.tmp 3) rfl W0.heap.size 32 #[.int .u16 s, .slice p L c] hat3 _ Try.underlying32 rfl (by kernel_rfl) ?_ ?_); rfl)
      | (go_at_call 11; go_must (refine (own11 _ s _ xs (HR.out.below HB3.out) HBB.out).mono ?_; rintro e w4 ⟨v4, rfl, hv4, hb4⟩; obtain ⟨p4, c4, hvv, _⟩ := id hv4.reads; rw [HL.out] at hvv; subst hvv; have HB4 := Lib.hid (HB3.out.trans (hb4.mono HB3.out.size)); clear hb4 hv4 hatC3 hat3))
      | (go_at_call 10; go_must (refine (cut_bad _ (some ⟨w1.heap.size, 0, none⟩) s z p4 L c4 un HE.out (by have := HBB.out; have := HL.out; omega) hs hz).mono ?_; rintro e w5 ⟨he, hb5⟩; rw [show cutE (some (⟨w1.heap.size, 0, none⟩ : Addr)).isNone L s z = r from HRR.out] at he; subst he; have HB5 := Lib.hid (HB4.out.trans (hb5.mono HB4.out.size)); clear hb5)))
    go_ret
    exact ⟨rfl, HB5.out⟩
end Go.Proofs.Yteiiifonejkjbaa.Chunk
