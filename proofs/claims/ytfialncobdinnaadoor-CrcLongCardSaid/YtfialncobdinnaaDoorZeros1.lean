/-
  Contracts: bits.TrailingZeros32, matrix.of, matrix.twice, both Zeros.
-/
import Derived.Test.YtfialncobdinnaaDoorZeros0
import Derived.Test.YtfialncobdinnaaDoorOps
import Derived.Test.YtfialncobdinnaaDoorReg
import Derived.Test.YtfialncobdinnaaDoorMonoT
import Derived.Lib.Hide
import Derived.Deep.DeepMust
import Derived.Deep.Cut
namespace Go.Proofs.YtfialncobdinnaaDoor.Crc
open Go.RowKit Mem Cells Ops
set_option linter.unusedVariables false
set_option linter.unusedSimpArgs false

/-- The library's table in its variable. -/
def TabW (w : World) : Prop := ∀ j, j < 32 → w.cell? ⟨0, j, none⟩ = some (.int .u8 (Lib.deBruijn32tab.getD j 0)) ∧ 0 < w.heap.size
theorem TabW.below {w w' : World} (h : TabW w) (hb : Below w.heap.size w w') : TabW w' := fun j hj => by
  obtain ⟨h1, h2⟩ := h j hj
  exact ⟨(hb.cell (p := ⟨0, j, none⟩) h2).trans h1, Nat.lt_of_lt_of_le h2 hb.size⟩
theorem tz_key (x a : Nat) (hx : x < 4294967296) (hx0 : x ≠ 0) (hlow : x &&& (4294967296 - x) = a) :
    bits BinOp.and IntKind.u32 (x : Int) (-(x : Int) % 4294967296) * 125613361 % 4294967296 / 134217728 = ((a * 125613361 % 4294967296 / 134217728 : Nat) : Int) := by
  have e1 : -(x : Int) % 4294967296 = ((4294967296 - x : Nat) : Int) := by omega
  rw [e1, u32_and_nat x _ hx (by omega), hlow]
  omega
set_option maxRecDepth 100000 in
set_option maxHeartbeats 1000000 in
theorem tz_core (x k idx : Nat) (w : World) (hx0 : ((x : Int) == 0) = false)
    (key : bits BinOp.and IntKind.u32 (x : Int) (-(x : Int) % 4294967296) * 125613361 % 4294967296 / 134217728 = (idx : Int))
    (hi : idx < 32) (hk : k < 32) (hcell : w.cell? ⟨0, idx, none⟩ = some (.int .u8 k)) :
    Calls Tryd.prog 13 #[.int .u32 x] w fun e w' => e = .returned (.int .i64 k) ∧ w' = w := by
  go_enter Tryd.func13, Tryd.ntmps13
  go_wp2_with (simp only [key])
  go_ret
  exact ⟨rfl, rfl⟩
theorem tz (x : Nat) (w : World) (hx : x < 4294967296) (hx0 : x ≠ 0) (hT : TabW w) : Calls Tryd.prog 13 #[.int .u32 x] w fun e w' => e = .returned (.int .i64 (Lib.ctz 32 x)) ∧ w' = w := by
  obtain ⟨hlow, hk⟩ := Lib.lowest_bit 32 x hx0 hx
  obtain ⟨hi, htab⟩ := Lib.deBruijn32_at _ hk
  have hcell := (hT _ hi).1
  rw [htab] at hcell
  exact tz_core x _ _ w (by simp; omega) (tz_key x _ hx hx0 hlow) hi hk hcell
def rowM (ms : List Nat) : Array Value := (ms.map fun (n : Nat) => Value.int .u32 (n : Int)).toArray
theorem rowM_get (ms : List Nat) (i : Nat) (h : i < ms.length) : (rowM ms)[i]? = some (.int .u32 (ms.getD i 0)) := by
  simp [rowM, List.getD_eq_getElem?_getD, h]
theorem rowM_one (ms : List Nat) : (rowM ms).all (·.oneCell') = true := by simp [rowM, Value.oneCell']
theorem and32 {a b : Nat} (ha : a < 4294967296) (hb : b < 4294967296) : bits BinOp.and IntKind.u32 (a : Int) (b : Int) = ((a &&& b : Nat) : Int) := u32_and_nat a b ha hb
set_option maxRecDepth 100000 in
set_option maxHeartbeats 1600000 in
theorem ofM (w : World) (g : Nat) (ms : List Nat) (k c : Nat) (hat : At w g 32 (rowM ms)) (hr : Rep ms (steps k)) (hc : c < 4294967296) (hT : TabW w) :
    Calls Tryd.prog 10 #[.pointer (some ⟨g, 0, none⟩), .int .u32 c] w fun e w' => e = .returned (.int .u32 (steps k c : Nat)) ∧ Below w.heap.size w w' := by
  have HAT := Lib.hid (And.intro hat (And.intro hr hT))
  clear hat hr hT
  go_enter Tryd.func10, Tryd.ntmps10
  go_wp2_with fail
  go_loopw [1, 4] (fun a b wr => ∃ c' o : Nat, a = .int .u32 c' ∧ b = .int .u32 o ∧ c' < 4294967296 ∧ o < 4294967296 ∧ o ^^^ steps k c' = steps k c ∧ Below w.heap.size w wr) (fun a _ _ => (intOf a).toNat)
  case atStart => exact ⟨c, 0, rfl, rfl, hc, by decide, by rw [Nat.zero_xor], Below.refl _ _⟩
  case round =>
    obtain ⟨c', o, rfl, rfl, hc', ho, heq, hbl⟩ := hrel
    have HE := Lib.hid (And.intro heq hbl)
    clear heq
    by_cases h0 : c' = 0
    · subst h0
      clear hc'
      go_wp2_with fail
      go_ret
      have := HE.out.1
      rw [(lin_steps k).zero, Nat.xor_zero] at this
      exact ⟨by rw [this]; rfl, HE.out.2⟩
    · obtain ⟨r1, r2, r3⟩ := low_rest c' h0 hc'
      have hrd := rep_round HAT.out.2.1 (lin_steps k) c' o h0 hc'
      have PT := Lib.hid (fun u (hu : Below wr.heap.size wr u) => tz c' u hc' h0 ((HAT.out.2.2.below hbl).below hu))
      obtain ⟨t, ht⟩ : ∃ t, Lib.ctz 32 c' = t := ⟨_, rfl⟩
      rw [ht] at PT r1 hrd
      have hm := (HAT.out.1.ext hbl).cell t
      rw [rowM_get ms t (by rw [HAT.out.2.1.1]; exact r1)] at hm
      have lg := (HAT.out.1.ext hbl).lt
      have hml := rep_lt HAT.out.2.1 t
      obtain ⟨mt, hmt⟩ : ∃ mt, ms.getD t 0 = mt := ⟨_, rfl⟩
      rw [hmt] at hm hml hrd
      have X1 := xor32 ho hml
      obtain ⟨o2, ho2⟩ : ∃ o2, o ^^^ mt = o2 := ⟨_, rfl⟩
      rw [ho2] at X1 hrd
      have ho2l : o2 < 4294967296 := by rw [← ho2]; exact xor_lt ho hml
      have t0 : ((c' : Int) != 0) = true := by simp; omega
      have c1 : (1 : Int) ≤ c' := by omega
      have A1 : bits BinOp.and IntKind.u32 (c' : Int) ((c' : Int) - 1) = ((c' &&& (c' - 1) : Nat) : Int) := by
        rw [← and32 hc' (show c' - 1 < 4294967296 by omega), show ((c' - 1 : Nat) : Int) = (c' : Int) - 1 by omega]
      obtain ⟨c2, hc2⟩ : ∃ c2, c' &&& (c' - 1) = c2 := ⟨_, rfl⟩
      rw [hc2] at A1 r2 r3 hrd
      have HD := Lib.hid (And.intro hrd r3)
      have h0' : c' ≠ 0 := h0
      have ht32 : (t : Int) < 32 := by omega
      clear hbl hrd r2 r3 hmt ho2 hc2 ht h0
      go_upto_region 2 with fail
      obtain ⟨w0, rfl⟩ : ∃ w0, w0 = wr := ⟨_, rfl⟩
      refine Mono.wp_region_monoT 8 [some 7, some 8, some 9, some 10, some 11, some 12, some 13, some 14] [Mono.isV (.int .u32 o), Mono.isV (.pointer (some ⟨g, 0, none⟩)), Mono.isV (.int .u32 c'), Mono.isV (.int .i64 t), Mono.isV (.pointer (some ⟨g, 0, none⟩)), Mono.isV (.pointer (some ⟨g, t, none⟩)), Mono.isV (.int .u32 mt), Mono.isV (.int .u32 o2)] (by kernel_rfl) (by kernel_rfl) ?_ ?_
      · simp only [Mono.OpGoals, List.take_succ_cons, List.take_zero, and_true]
        refine ⟨?_, ?_, ?_, ?_, ?_, ?_, ?_, ?_⟩
        · intro a u hbu hsu hdu
          have hm := (hbu.cell (p := ⟨g, t, none⟩) lg).trans hm
          refine Mono.if_want rfl ?_
          exact Mono.ok_move (.tmp 4) rfl (hsu 4 (by decide))
        · intro a u hbu hsu hdu
          have hm := (hbu.cell (p := ⟨g, t, none⟩) lg).trans hm
          refine Mono.if_want rfl ?_
          exact Mono.ok_move (.tmp 0) rfl (hsu 0 (by decide))
        · intro a u hbu hsu hdu
          have hm := (hbu.cell (p := ⟨g, t, none⟩) lg).trans hm
          refine Mono.if_want rfl ?_
          exact Mono.ok_move (.tmp 1) rfl (hsu 1 (by decide))
        · intro a u hbu hsu hdu
          have hm := (hbu.cell (p := ⟨g, t, none⟩) lg).trans hm
          refine Mono.if_want rfl ?_
          have z9 : a.eval (.tmp 9) = .int .u32 c' := Mono.dep_at hdu (i := 2) (d := 9) rfl rfl rfl
          simp [Act.eval] at z9
          exact Mono.ok_call 13 _ _ rfl #[.int .u32 c'] (by simp [execOp, z9, go_sem]) ((PT.out u hbu).mono (fun e x ⟨h1, h2⟩ => by subst h2; exact ⟨_, h1, Below.refl _ _, rfl⟩))
        · intro a u hbu hsu hdu
          have hm := (hbu.cell (p := ⟨g, t, none⟩) lg).trans hm
          refine Mono.if_want rfl ?_
          have z8 : a.eval (.tmp 8) = .pointer (some ⟨g, 0, none⟩) := Mono.dep_at hdu (i := 1) (d := 8) rfl rfl rfl
          simp [Act.eval] at z8
          exact Mono.ok_val (.pointer (some ⟨g, 0, none⟩)) (by simp [execOp, z8, go_sem, hm, X1, ht32, r1]) rfl
        · intro a u hbu hsu hdu
          have hm := (hbu.cell (p := ⟨g, t, none⟩) lg).trans hm
          refine Mono.if_want rfl ?_
          have z11 : a.eval (.tmp 11) = .pointer (some ⟨g, 0, none⟩) := Mono.dep_at hdu (i := 4) (d := 11) rfl rfl rfl
          simp [Act.eval] at z11
          have z10 : a.eval (.tmp 10) = .int .i64 t := Mono.dep_at hdu (i := 3) (d := 10) rfl rfl rfl
          simp [Act.eval] at z10
          exact Mono.ok_val (.pointer (some ⟨g, t, none⟩)) (by simp [execOp, z11, z10, go_sem, hm, X1, ht32, r1]) rfl
        · intro a u hbu hsu hdu
          have hm := (hbu.cell (p := ⟨g, t, none⟩) lg).trans hm
          refine Mono.if_want rfl ?_
          have z12 : a.eval (.tmp 12) = .pointer (some ⟨g, t, none⟩) := Mono.dep_at hdu (i := 5) (d := 12) rfl rfl rfl
          simp [Act.eval] at z12
          exact Mono.ok_val (.int .u32 mt) (by simp [execOp, z12, go_sem, hm, X1, ht32, r1]) rfl
        · intro a u hbu hsu hdu
          have hm := (hbu.cell (p := ⟨g, t, none⟩) lg).trans hm
          refine Mono.if_want rfl ?_
          have z7 : a.eval (.tmp 7) = .int .u32 o := Mono.dep_at hdu (i := 0) (d := 7) rfl rfl rfl
          simp [Act.eval] at z7
          have z13 : a.eval (.tmp 13) = .int .u32 mt := Mono.dep_at hdu (i := 6) (d := 13) rfl rfl rfl
          simp [Act.eval] at z13
          exact Mono.ok_val (.int .u32 o2) (by simp [execOp, z7, z13, go_sem, hm, X1, ht32, r1]) rfl
      intro u hu
      simp only [Mono.Fin]
      rintro _ rfl _ rfl _ rfl _ rfl _ rfl _ rfl _ rfl _ rfl
      simp [Act.put]
      have HU := Lib.hid hu
      clear hu hm X1
      go_wp2_with (simp only [A1])
      go_roundw
      case rel => exact ⟨c2, o2, rfl, rfl, by have := HD.out.2; omega, ho2l, by rw [HD.out.1]; exact HE.out.1, HE.out.2.trans (HU.out.mono HE.out.2.size)⟩
      case measure => have := HD.out.2; simp [intOf]; omega
end Go.Proofs.YtfialncobdinnaaDoor.Crc
