/-
  The laws CrcZeros and CrcLong: the walks.
-/
import Derived.Test.YtfialncobdinnaaDoorZeros2
namespace Go.Proofs.YtfialncobdinnaaDoor.Crc
open Go.RowKit Mem Cells Ops
set_option linter.unusedVariables false
set_option linter.unusedSimpArgs false

set_option maxRecDepth 100000 in
set_option maxHeartbeats 1600000 in
theorem zeros_ (sum n : Nat) (m : Int) (w : World) (hs : sum < 4294967296) (hn : n < 65536) (hm1 : m ≤ 9223372036854775807) (hm2 : -9223372036854775808 ≤ m) (hT : TabW w) :
    Calls Tryd.prog 3 #[.int .u32 sum, .int .u16 n, .int .i64 m] w fun e w' => e = .returned (.bool true) ∧ Below w.heap.size w w' := by
  have C1 := Lib.hid (fun u (hu : Below w.heap.size w u) => zerosP sum ((n : Int) % 3000) u hs (by omega) (by omega) (hT.below hu))
  have C2 := Lib.hid (fun u (hu : Below w.heap.size w u) => zerosR sum ((n : Int) % 3000) u hs (by omega) (by omega))
  have C3 := Lib.hid (fun u (hu : Below w.heap.size w u) => zerosP sum m u hs hm1 hm2 (hT.below hu))
  obtain ⟨z, hz⟩ : ∃ z, zerosN sum ((n : Int) % 3000).toNat = z := ⟨_, rfl⟩
  rw [hz] at C1 C2
  have hu := Below.refl w.heap.size w
  have hzz : ((z : Int) != z) = false := by simp
  have hss : ((sum : Int) == sum) = true := by simp
  clear hz hT
  by_cases hp : 0 < m
  · clear C3
    go_enter Tryd.func3, Tryd.ntmps3
    go_wp2_with (first
      | (go_at_call 5; go_must (refine (Laws.answers _).mono ?_; rintro e w9 ⟨rfl, hb⟩; have hv := hu.trans (hb.mono hu.size); clear hu hb; have hu := hv; clear hv))
      | (go_at_call 6; ((with_reducible refine (C1.out _ hu).mono ?_); rintro e w9 ⟨rfl, hb⟩); have hv := hu.trans (hb.mono hu.size); clear hu hb; have hu := hv; clear hv)
      | (go_at_call 7; ((with_reducible refine (C2.out _ hu).mono ?_); rintro e w9 ⟨rfl, hb⟩); have hv := hu.trans (hb.mono hu.size); clear hu hb; have hu := hv; clear hv))
    go_ret
    exact ⟨rfl, hu⟩
  · rw [show m.toNat = 0 by omega, zerosN_zero sum hs] at C3
    go_enter Tryd.func3, Tryd.ntmps3
    go_wp2_with (first
      | (go_at_call 5; go_must (refine (Laws.answers _).mono ?_; rintro e w9 ⟨rfl, hb⟩; have hv := hu.trans (hb.mono hu.size); clear hu hb; have hu := hv; clear hv))
      | (go_at_call 6; ((with_reducible refine (C1.out _ hu).mono ?_); rintro e w9 ⟨rfl, hb⟩); have hv := hu.trans (hb.mono hu.size); clear hu hb; have hu := hv; clear hv)
      | (go_at_call 6; ((with_reducible refine (C3.out _ hu).mono ?_); rintro e w9 ⟨rfl, hb⟩); have hv := hu.trans (hb.mono hu.size); clear hu hb; have hu := hv; clear hv)
      | (go_at_call 7; ((with_reducible refine (C2.out _ hu).mono ?_); rintro e w9 ⟨rfl, hb⟩); have hv := hu.trans (hb.mono hu.size); clear hu hb; have hu := hv; clear hv))
    go_ret
    exact ⟨rfl, hu⟩
set_option maxRecDepth 100000 in
set_option maxHeartbeats 1600000 in
theorem long_lo_lo (x y z : Nat) (a : Int) (ha : a < 0) (b : Int) (hb : b < 0) (w : World) (hx : x < 4294967296) (hy : y < 4294967296) (hz : z < 4294967296) (hT : TabW w) :
    Calls Tryd.prog 4 #[.int .u32 x, .int .u32 y, .int .u32 z, .int .i64 a, .int .i64 b] w fun e w' => e = .returned (.bool true) ∧ Below w.heap.size w w' := by
  have hA : zerosN x 5 < 4294967296 := zerosN_lt _ _
  have hB : zerosN y 5 < 4294967296 := zerosN_lt _ _
  have hxz : x ^^^ z < 4294967296 := xor_lt hx hz
  have hyz : y ^^^ z < 4294967296 := xor_lt hy hz
  have hF : zerosN x 7 < 4294967296 := zerosN_lt _ _
  have P := fun u (hu : Below w.heap.size w u) (s : Nat) (k : Nat) (ki : Int) (hki : ki = k) (hs : s < 4294967296) (hk : k ≤ 4611686018427387904) => show Calls Tryd.prog 6 #[.int .u32 s, .int .i64 ki] u fun e w' => e = .returned (.int .u32 (zerosN s k : Nat)) ∧ Below u.heap.size u w' by
    subst hki
    have := zerosP s k u hs (by omega) (by omega) (hT.below hu)
    rwa [show ((k : Nat) : Int).toNat = k by omega] at this
  have C1 := Lib.hid (fun u hu => P u hu x 5 5 rfl hx (by omega))
  have C2 := Lib.hid (fun u hu => P u hu y 5 5 rfl hy (by omega))
  have C3 := Lib.hid (fun u hu => P u hu (x ^^^ z) 5 5 rfl hxz (by omega))
  have C4 := Lib.hid (fun u hu => P u hu (y ^^^ z) 5 5 rfl hyz (by omega))
  have C5 := Lib.hid (fun u hu => P u hu (zerosN x 5) 7 7 rfl hA (by omega))
  have C6 := Lib.hid (fun u hu => P u hu x 7 7 rfl hx (by omega))
  have C7 := Lib.hid (fun u hu => P u hu (zerosN x 7) 5 5 rfl hF (by omega))
  have C8 := Lib.hid (fun u hu => P u hu x (5 + 7) 12 (by omega) hx (by omega))
  have X1 := xor32 hx hz
  have X2 := xor32 hy hz
  have X3 := xor32 hA hB
  have X4 := xor32 (zerosN_lt (x ^^^ z) 5) (zerosN_lt (y ^^^ z) 5)
  rw [turned_eq x y z 5 hx hy hz] at X4
  have X5 := apart_zero x y 5 hx hy
  rw [zerosN_add x 5 7 hx] at C5
  rw [zerosN_add x 7 5 hx, Nat.add_comm 7 5] at C7
  clear P hF hT
  obtain ⟨xz, hxze⟩ : ∃ xz, x ^^^ z = xz := ⟨_, rfl⟩
  obtain ⟨yz, hyze⟩ : ∃ yz, y ^^^ z = yz := ⟨_, rfl⟩
  obtain ⟨ap, hap⟩ : ∃ ap, zerosN x 5 ^^^ zerosN y 5 = ap := ⟨_, rfl⟩
  obtain ⟨A, hAe⟩ : ∃ A, zerosN x 5 = A := ⟨_, rfl⟩
  obtain ⟨Bv, hBe⟩ : ∃ Bv, zerosN y 5 = Bv := ⟨_, rfl⟩
  obtain ⟨F, hFe⟩ : ∃ F, zerosN x 7 = F := ⟨_, rfl⟩
  obtain ⟨E, hEe⟩ : ∃ E, zerosN x (5 + 7) = E := ⟨_, rfl⟩
  rw [hap] at X3 X4 X5
  rw [hxze] at C3 X1 X4
  rw [hyze] at C4 X2 X4
  obtain ⟨Cv, hCe⟩ : ∃ Cv, zerosN xz 5 = Cv := ⟨_, rfl⟩
  obtain ⟨Dv, hDe⟩ : ∃ Dv, zerosN yz 5 = Dv := ⟨_, rfl⟩
  rw [hAe] at C1 C5 X3
  rw [hBe] at C2 X3
  rw [hCe] at C3 X4
  rw [hDe] at C4 X4
  rw [hFe] at C6 C7
  rw [hEe] at C5 C7 C8
  have hq : ((ap : Int) == 0) = ((x : Int) == y) := by
    rw [Bool.eq_iff_iff]
    simp only [beq_iff_eq]
    constructor
    · intro h
      have := X5.1 (by omega)
      omega
    · intro h
      have := X5.2 (by omega)
      omega
  obtain ⟨bq, hbq⟩ : ∃ bq, ((x : Int) == y) = bq := ⟨_, rfl⟩
  rw [hbq] at hq
  have hap2 : ((ap : Int) == ap) = true := by simp
  have hE2 : ((E : Int) == E) = true := by simp
  have hbb : (bq == bq) = true := by simp
  have hu := Below.refl w.heap.size w
  clear X5 hap hAe hBe hCe hDe hFe hEe hxze hyze hA hB hxz hyz hx hy hz
  go_enter Tryd.func4, Tryd.ntmps4
  go_wp2_with (first
    | (simp only [X1])
    | (simp only [X2])
    | (simp only [X3])
    | (simp only [X4])
    | (go_at_call 5; go_must (refine (Laws.answers _).mono ?_; rintro e w9 ⟨rfl, hb⟩; have hv := hu.trans (hb.mono hu.size); clear hu hb; have hu := hv; clear hv))
    | (go_at_call 6; ((with_reducible refine (C1.out _ hu).mono ?_); rintro e w9 ⟨rfl, hb⟩); have hv := hu.trans (hb.mono hu.size); clear hu hb; have hu := hv; clear hv)
    | (go_at_call 6; ((with_reducible refine (C2.out _ hu).mono ?_); rintro e w9 ⟨rfl, hb⟩); have hv := hu.trans (hb.mono hu.size); clear hu hb; have hu := hv; clear hv)
    | (go_at_call 6; ((with_reducible refine (C3.out _ hu).mono ?_); rintro e w9 ⟨rfl, hb⟩); have hv := hu.trans (hb.mono hu.size); clear hu hb; have hu := hv; clear hv)
    | (go_at_call 6; ((with_reducible refine (C4.out _ hu).mono ?_); rintro e w9 ⟨rfl, hb⟩); have hv := hu.trans (hb.mono hu.size); clear hu hb; have hu := hv; clear hv)
    | (go_at_call 6; ((with_reducible refine (C5.out _ hu).mono ?_); rintro e w9 ⟨rfl, hb⟩); have hv := hu.trans (hb.mono hu.size); clear hu hb; have hu := hv; clear hv)
    | (go_at_call 6; ((with_reducible refine (C6.out _ hu).mono ?_); rintro e w9 ⟨rfl, hb⟩); have hv := hu.trans (hb.mono hu.size); clear hu hb; have hu := hv; clear hv)
    | (go_at_call 6; ((with_reducible refine (C7.out _ hu).mono ?_); rintro e w9 ⟨rfl, hb⟩); have hv := hu.trans (hb.mono hu.size); clear hu hb; have hu := hv; clear hv)
    | (go_at_call 6; ((with_reducible refine (C8.out _ hu).mono ?_); rintro e w9 ⟨rfl, hb⟩); have hv := hu.trans (hb.mono hu.size); clear hu hb; have hu := hv; clear hv))
  go_ret
  exact ⟨by simp, hu⟩
set_option maxRecDepth 100000 in
set_option maxHeartbeats 1600000 in
theorem long_lo_hi (x y z : Nat) (a : Int) (ha : a < 0) (b : Int) (hb : 2305843009213693952 < b) (w : World) (hx : x < 4294967296) (hy : y < 4294967296) (hz : z < 4294967296) (hT : TabW w) :
    Calls Tryd.prog 4 #[.int .u32 x, .int .u32 y, .int .u32 z, .int .i64 a, .int .i64 b] w fun e w' => e = .returned (.bool true) ∧ Below w.heap.size w w' := by
  have hA : zerosN x 5 < 4294967296 := zerosN_lt _ _
  have hB : zerosN y 5 < 4294967296 := zerosN_lt _ _
  have hxz : x ^^^ z < 4294967296 := xor_lt hx hz
  have hyz : y ^^^ z < 4294967296 := xor_lt hy hz
  have hF : zerosN x 7 < 4294967296 := zerosN_lt _ _
  have P := fun u (hu : Below w.heap.size w u) (s : Nat) (k : Nat) (ki : Int) (hki : ki = k) (hs : s < 4294967296) (hk : k ≤ 4611686018427387904) => show Calls Tryd.prog 6 #[.int .u32 s, .int .i64 ki] u fun e w' => e = .returned (.int .u32 (zerosN s k : Nat)) ∧ Below u.heap.size u w' by
    subst hki
    have := zerosP s k u hs (by omega) (by omega) (hT.below hu)
    rwa [show ((k : Nat) : Int).toNat = k by omega] at this
  have C1 := Lib.hid (fun u hu => P u hu x 5 5 rfl hx (by omega))
  have C2 := Lib.hid (fun u hu => P u hu y 5 5 rfl hy (by omega))
  have C3 := Lib.hid (fun u hu => P u hu (x ^^^ z) 5 5 rfl hxz (by omega))
  have C4 := Lib.hid (fun u hu => P u hu (y ^^^ z) 5 5 rfl hyz (by omega))
  have C5 := Lib.hid (fun u hu => P u hu (zerosN x 5) 7 7 rfl hA (by omega))
  have C6 := Lib.hid (fun u hu => P u hu x 7 7 rfl hx (by omega))
  have C7 := Lib.hid (fun u hu => P u hu (zerosN x 7) 5 5 rfl hF (by omega))
  have C8 := Lib.hid (fun u hu => P u hu x (5 + 7) 12 (by omega) hx (by omega))
  have X1 := xor32 hx hz
  have X2 := xor32 hy hz
  have X3 := xor32 hA hB
  have X4 := xor32 (zerosN_lt (x ^^^ z) 5) (zerosN_lt (y ^^^ z) 5)
  rw [turned_eq x y z 5 hx hy hz] at X4
  have X5 := apart_zero x y 5 hx hy
  rw [zerosN_add x 5 7 hx] at C5
  rw [zerosN_add x 7 5 hx, Nat.add_comm 7 5] at C7
  clear P hF hT
  obtain ⟨xz, hxze⟩ : ∃ xz, x ^^^ z = xz := ⟨_, rfl⟩
  obtain ⟨yz, hyze⟩ : ∃ yz, y ^^^ z = yz := ⟨_, rfl⟩
  obtain ⟨ap, hap⟩ : ∃ ap, zerosN x 5 ^^^ zerosN y 5 = ap := ⟨_, rfl⟩
  obtain ⟨A, hAe⟩ : ∃ A, zerosN x 5 = A := ⟨_, rfl⟩
  obtain ⟨Bv, hBe⟩ : ∃ Bv, zerosN y 5 = Bv := ⟨_, rfl⟩
  obtain ⟨F, hFe⟩ : ∃ F, zerosN x 7 = F := ⟨_, rfl⟩
  obtain ⟨E, hEe⟩ : ∃ E, zerosN x (5 + 7) = E := ⟨_, rfl⟩
  rw [hap] at X3 X4 X5
  rw [hxze] at C3 X1 X4
  rw [hyze] at C4 X2 X4
  obtain ⟨Cv, hCe⟩ : ∃ Cv, zerosN xz 5 = Cv := ⟨_, rfl⟩
  obtain ⟨Dv, hDe⟩ : ∃ Dv, zerosN yz 5 = Dv := ⟨_, rfl⟩
  rw [hAe] at C1 C5 X3
  rw [hBe] at C2 X3
  rw [hCe] at C3 X4
  rw [hDe] at C4 X4
  rw [hFe] at C6 C7
  rw [hEe] at C5 C7 C8
  have hq : ((ap : Int) == 0) = ((x : Int) == y) := by
    rw [Bool.eq_iff_iff]
    simp only [beq_iff_eq]
    constructor
    · intro h
      have := X5.1 (by omega)
      omega
    · intro h
      have := X5.2 (by omega)
      omega
  obtain ⟨bq, hbq⟩ : ∃ bq, ((x : Int) == y) = bq := ⟨_, rfl⟩
  rw [hbq] at hq
  have hap2 : ((ap : Int) == ap) = true := by simp
  have hE2 : ((E : Int) == E) = true := by simp
  have hbb : (bq == bq) = true := by simp
  have hu := Below.refl w.heap.size w
  clear X5 hap hAe hBe hCe hDe hFe hEe hxze hyze hA hB hxz hyz hx hy hz
  have hb0 : 0 ≤ b := by omega
  go_enter Tryd.func4, Tryd.ntmps4
  go_wp2_with (first
    | (simp only [X1])
    | (simp only [X2])
    | (simp only [X3])
    | (simp only [X4])
    | (go_at_call 5; go_must (refine (Laws.answers _).mono ?_; rintro e w9 ⟨rfl, hb⟩; have hv := hu.trans (hb.mono hu.size); clear hu hb; have hu := hv; clear hv))
    | (go_at_call 6; ((with_reducible refine (C1.out _ hu).mono ?_); rintro e w9 ⟨rfl, hb⟩); have hv := hu.trans (hb.mono hu.size); clear hu hb; have hu := hv; clear hv)
    | (go_at_call 6; ((with_reducible refine (C2.out _ hu).mono ?_); rintro e w9 ⟨rfl, hb⟩); have hv := hu.trans (hb.mono hu.size); clear hu hb; have hu := hv; clear hv)
    | (go_at_call 6; ((with_reducible refine (C3.out _ hu).mono ?_); rintro e w9 ⟨rfl, hb⟩); have hv := hu.trans (hb.mono hu.size); clear hu hb; have hu := hv; clear hv)
    | (go_at_call 6; ((with_reducible refine (C4.out _ hu).mono ?_); rintro e w9 ⟨rfl, hb⟩); have hv := hu.trans (hb.mono hu.size); clear hu hb; have hu := hv; clear hv)
    | (go_at_call 6; ((with_reducible refine (C5.out _ hu).mono ?_); rintro e w9 ⟨rfl, hb⟩); have hv := hu.trans (hb.mono hu.size); clear hu hb; have hu := hv; clear hv)
    | (go_at_call 6; ((with_reducible refine (C6.out _ hu).mono ?_); rintro e w9 ⟨rfl, hb⟩); have hv := hu.trans (hb.mono hu.size); clear hu hb; have hu := hv; clear hv)
    | (go_at_call 6; ((with_reducible refine (C7.out _ hu).mono ?_); rintro e w9 ⟨rfl, hb⟩); have hv := hu.trans (hb.mono hu.size); clear hu hb; have hu := hv; clear hv)
    | (go_at_call 6; ((with_reducible refine (C8.out _ hu).mono ?_); rintro e w9 ⟨rfl, hb⟩); have hv := hu.trans (hb.mono hu.size); clear hu hb; have hu := hv; clear hv))
  go_ret
  exact ⟨by simp, hu⟩
set_option maxRecDepth 100000 in
set_option maxHeartbeats 1600000 in
theorem long_lo_in (x y z : Nat) (a : Int) (ha : a < 0) (N : Nat) (hN : N ≤ 2305843009213693952) (w : World) (hx : x < 4294967296) (hy : y < 4294967296) (hz : z < 4294967296) (hT : TabW w) :
    Calls Tryd.prog 4 #[.int .u32 x, .int .u32 y, .int .u32 z, .int .i64 a, .int .i64 (N : Nat)] w fun e w' => e = .returned (.bool true) ∧ Below w.heap.size w w' := by
  have hA : zerosN x 5 < 4294967296 := zerosN_lt _ _
  have hB : zerosN y 5 < 4294967296 := zerosN_lt _ _
  have hxz : x ^^^ z < 4294967296 := xor_lt hx hz
  have hyz : y ^^^ z < 4294967296 := xor_lt hy hz
  have hF : zerosN x N < 4294967296 := zerosN_lt _ _
  have P := fun u (hu : Below w.heap.size w u) (s : Nat) (k : Nat) (ki : Int) (hki : ki = k) (hs : s < 4294967296) (hk : k ≤ 4611686018427387904) => show Calls Tryd.prog 6 #[.int .u32 s, .int .i64 ki] u fun e w' => e = .returned (.int .u32 (zerosN s k : Nat)) ∧ Below u.heap.size u w' by
    subst hki
    have := zerosP s k u hs (by omega) (by omega) (hT.below hu)
    rwa [show ((k : Nat) : Int).toNat = k by omega] at this
  have C1 := Lib.hid (fun u hu => P u hu x 5 5 rfl hx (by omega))
  have C2 := Lib.hid (fun u hu => P u hu y 5 5 rfl hy (by omega))
  have C3 := Lib.hid (fun u hu => P u hu (x ^^^ z) 5 5 rfl hxz (by omega))
  have C4 := Lib.hid (fun u hu => P u hu (y ^^^ z) 5 5 rfl hyz (by omega))
  have C5 := Lib.hid (fun u hu => P u hu (zerosN x 5) N N rfl hA (by omega))
  have C6 := Lib.hid (fun u hu => P u hu x N N rfl hx (by omega))
  have C7 := Lib.hid (fun u hu => P u hu (zerosN x N) 5 5 rfl hF (by omega))
  have C8 := Lib.hid (fun u hu => P u hu x (5 + N) (5 + (N : Int)) (by omega) hx (by omega))
  have X1 := xor32 hx hz
  have X2 := xor32 hy hz
  have X3 := xor32 hA hB
  have X4 := xor32 (zerosN_lt (x ^^^ z) 5) (zerosN_lt (y ^^^ z) 5)
  rw [turned_eq x y z 5 hx hy hz] at X4
  have X5 := apart_zero x y 5 hx hy
  rw [zerosN_add x 5 N hx] at C5
  rw [zerosN_add x N 5 hx, Nat.add_comm N 5] at C7
  clear P hF hT
  obtain ⟨xz, hxze⟩ : ∃ xz, x ^^^ z = xz := ⟨_, rfl⟩
  obtain ⟨yz, hyze⟩ : ∃ yz, y ^^^ z = yz := ⟨_, rfl⟩
  obtain ⟨ap, hap⟩ : ∃ ap, zerosN x 5 ^^^ zerosN y 5 = ap := ⟨_, rfl⟩
  obtain ⟨A, hAe⟩ : ∃ A, zerosN x 5 = A := ⟨_, rfl⟩
  obtain ⟨Bv, hBe⟩ : ∃ Bv, zerosN y 5 = Bv := ⟨_, rfl⟩
  obtain ⟨F, hFe⟩ : ∃ F, zerosN x N = F := ⟨_, rfl⟩
  obtain ⟨E, hEe⟩ : ∃ E, zerosN x (5 + N) = E := ⟨_, rfl⟩
  rw [hap] at X3 X4 X5
  rw [hxze] at C3 X1 X4
  rw [hyze] at C4 X2 X4
  obtain ⟨Cv, hCe⟩ : ∃ Cv, zerosN xz 5 = Cv := ⟨_, rfl⟩
  obtain ⟨Dv, hDe⟩ : ∃ Dv, zerosN yz 5 = Dv := ⟨_, rfl⟩
  rw [hAe] at C1 C5 X3
  rw [hBe] at C2 X3
  rw [hCe] at C3 X4
  rw [hDe] at C4 X4
  rw [hFe] at C6 C7
  rw [hEe] at C5 C7 C8
  have hq : ((ap : Int) == 0) = ((x : Int) == y) := by
    rw [Bool.eq_iff_iff]
    simp only [beq_iff_eq]
    constructor
    · intro h
      have := X5.1 (by omega)
      omega
    · intro h
      have := X5.2 (by omega)
      omega
  obtain ⟨bq, hbq⟩ : ∃ bq, ((x : Int) == y) = bq := ⟨_, rfl⟩
  rw [hbq] at hq
  have hap2 : ((ap : Int) == ap) = true := by simp
  have hE2 : ((E : Int) == E) = true := by simp
  have hbb : (bq == bq) = true := by simp
  have hu := Below.refl w.heap.size w
  clear X5 hap hAe hBe hCe hDe hFe hEe hxze hyze hA hB hxz hyz hx hy hz
  go_enter Tryd.func4, Tryd.ntmps4
  go_wp2_with (first
    | (simp only [X1])
    | (simp only [X2])
    | (simp only [X3])
    | (simp only [X4])
    | (go_at_call 5; go_must (refine (Laws.answers _).mono ?_; rintro e w9 ⟨rfl, hb⟩; have hv := hu.trans (hb.mono hu.size); clear hu hb; have hu := hv; clear hv))
    | (go_at_call 6; ((with_reducible refine (C1.out _ hu).mono ?_); rintro e w9 ⟨rfl, hb⟩); have hv := hu.trans (hb.mono hu.size); clear hu hb; have hu := hv; clear hv)
    | (go_at_call 6; ((with_reducible refine (C2.out _ hu).mono ?_); rintro e w9 ⟨rfl, hb⟩); have hv := hu.trans (hb.mono hu.size); clear hu hb; have hu := hv; clear hv)
    | (go_at_call 6; ((with_reducible refine (C3.out _ hu).mono ?_); rintro e w9 ⟨rfl, hb⟩); have hv := hu.trans (hb.mono hu.size); clear hu hb; have hu := hv; clear hv)
    | (go_at_call 6; ((with_reducible refine (C4.out _ hu).mono ?_); rintro e w9 ⟨rfl, hb⟩); have hv := hu.trans (hb.mono hu.size); clear hu hb; have hu := hv; clear hv)
    | (go_at_call 6; ((with_reducible refine (C5.out _ hu).mono ?_); rintro e w9 ⟨rfl, hb⟩); have hv := hu.trans (hb.mono hu.size); clear hu hb; have hu := hv; clear hv)
    | (go_at_call 6; ((with_reducible refine (C6.out _ hu).mono ?_); rintro e w9 ⟨rfl, hb⟩); have hv := hu.trans (hb.mono hu.size); clear hu hb; have hu := hv; clear hv)
    | (go_at_call 6; ((with_reducible refine (C7.out _ hu).mono ?_); rintro e w9 ⟨rfl, hb⟩); have hv := hu.trans (hb.mono hu.size); clear hu hb; have hu := hv; clear hv)
    | (go_at_call 6; ((with_reducible refine (C8.out _ hu).mono ?_); rintro e w9 ⟨rfl, hb⟩); have hv := hu.trans (hb.mono hu.size); clear hu hb; have hu := hv; clear hv))
  go_ret
  exact ⟨by simp, hu⟩
set_option maxRecDepth 100000 in
set_option maxHeartbeats 1600000 in
theorem long_hi_lo (x y z : Nat) (a : Int) (ha : 2305843009213693952 < a) (b : Int) (hb : b < 0) (w : World) (hx : x < 4294967296) (hy : y < 4294967296) (hz : z < 4294967296) (hT : TabW w) :
    Calls Tryd.prog 4 #[.int .u32 x, .int .u32 y, .int .u32 z, .int .i64 a, .int .i64 b] w fun e w' => e = .returned (.bool true) ∧ Below w.heap.size w w' := by
  have hA : zerosN x 5 < 4294967296 := zerosN_lt _ _
  have hB : zerosN y 5 < 4294967296 := zerosN_lt _ _
  have hxz : x ^^^ z < 4294967296 := xor_lt hx hz
  have hyz : y ^^^ z < 4294967296 := xor_lt hy hz
  have hF : zerosN x 7 < 4294967296 := zerosN_lt _ _
  have P := fun u (hu : Below w.heap.size w u) (s : Nat) (k : Nat) (ki : Int) (hki : ki = k) (hs : s < 4294967296) (hk : k ≤ 4611686018427387904) => show Calls Tryd.prog 6 #[.int .u32 s, .int .i64 ki] u fun e w' => e = .returned (.int .u32 (zerosN s k : Nat)) ∧ Below u.heap.size u w' by
    subst hki
    have := zerosP s k u hs (by omega) (by omega) (hT.below hu)
    rwa [show ((k : Nat) : Int).toNat = k by omega] at this
  have C1 := Lib.hid (fun u hu => P u hu x 5 5 rfl hx (by omega))
  have C2 := Lib.hid (fun u hu => P u hu y 5 5 rfl hy (by omega))
  have C3 := Lib.hid (fun u hu => P u hu (x ^^^ z) 5 5 rfl hxz (by omega))
  have C4 := Lib.hid (fun u hu => P u hu (y ^^^ z) 5 5 rfl hyz (by omega))
  have C5 := Lib.hid (fun u hu => P u hu (zerosN x 5) 7 7 rfl hA (by omega))
  have C6 := Lib.hid (fun u hu => P u hu x 7 7 rfl hx (by omega))
  have C7 := Lib.hid (fun u hu => P u hu (zerosN x 7) 5 5 rfl hF (by omega))
  have C8 := Lib.hid (fun u hu => P u hu x (5 + 7) 12 (by omega) hx (by omega))
  have X1 := xor32 hx hz
  have X2 := xor32 hy hz
  have X3 := xor32 hA hB
  have X4 := xor32 (zerosN_lt (x ^^^ z) 5) (zerosN_lt (y ^^^ z) 5)
  rw [turned_eq x y z 5 hx hy hz] at X4
  have X5 := apart_zero x y 5 hx hy
  rw [zerosN_add x 5 7 hx] at C5
  rw [zerosN_add x 7 5 hx, Nat.add_comm 7 5] at C7
  clear P hF hT
  obtain ⟨xz, hxze⟩ : ∃ xz, x ^^^ z = xz := ⟨_, rfl⟩
  obtain ⟨yz, hyze⟩ : ∃ yz, y ^^^ z = yz := ⟨_, rfl⟩
  obtain ⟨ap, hap⟩ : ∃ ap, zerosN x 5 ^^^ zerosN y 5 = ap := ⟨_, rfl⟩
  obtain ⟨A, hAe⟩ : ∃ A, zerosN x 5 = A := ⟨_, rfl⟩
  obtain ⟨Bv, hBe⟩ : ∃ Bv, zerosN y 5 = Bv := ⟨_, rfl⟩
  obtain ⟨F, hFe⟩ : ∃ F, zerosN x 7 = F := ⟨_, rfl⟩
  obtain ⟨E, hEe⟩ : ∃ E, zerosN x (5 + 7) = E := ⟨_, rfl⟩
  rw [hap] at X3 X4 X5
  rw [hxze] at C3 X1 X4
  rw [hyze] at C4 X2 X4
  obtain ⟨Cv, hCe⟩ : ∃ Cv, zerosN xz 5 = Cv := ⟨_, rfl⟩
  obtain ⟨Dv, hDe⟩ : ∃ Dv, zerosN yz 5 = Dv := ⟨_, rfl⟩
  rw [hAe] at C1 C5 X3
  rw [hBe] at C2 X3
  rw [hCe] at C3 X4
  rw [hDe] at C4 X4
  rw [hFe] at C6 C7
  rw [hEe] at C5 C7 C8
  have hq : ((ap : Int) == 0) = ((x : Int) == y) := by
    rw [Bool.eq_iff_iff]
    simp only [beq_iff_eq]
    constructor
    · intro h
      have := X5.1 (by omega)
      omega
    · intro h
      have := X5.2 (by omega)
      omega
  obtain ⟨bq, hbq⟩ : ∃ bq, ((x : Int) == y) = bq := ⟨_, rfl⟩
  rw [hbq] at hq
  have hap2 : ((ap : Int) == ap) = true := by simp
  have hE2 : ((E : Int) == E) = true := by simp
  have hbb : (bq == bq) = true := by simp
  have hu := Below.refl w.heap.size w
  clear X5 hap hAe hBe hCe hDe hFe hEe hxze hyze hA hB hxz hyz hx hy hz
  have ha0 : 0 ≤ a := by omega
  go_enter Tryd.func4, Tryd.ntmps4
  go_wp2_with (first
    | (simp only [X1])
    | (simp only [X2])
    | (simp only [X3])
    | (simp only [X4])
    | (go_at_call 5; go_must (refine (Laws.answers _).mono ?_; rintro e w9 ⟨rfl, hb⟩; have hv := hu.trans (hb.mono hu.size); clear hu hb; have hu := hv; clear hv))
    | (go_at_call 6; ((with_reducible refine (C1.out _ hu).mono ?_); rintro e w9 ⟨rfl, hb⟩); have hv := hu.trans (hb.mono hu.size); clear hu hb; have hu := hv; clear hv)
    | (go_at_call 6; ((with_reducible refine (C2.out _ hu).mono ?_); rintro e w9 ⟨rfl, hb⟩); have hv := hu.trans (hb.mono hu.size); clear hu hb; have hu := hv; clear hv)
    | (go_at_call 6; ((with_reducible refine (C3.out _ hu).mono ?_); rintro e w9 ⟨rfl, hb⟩); have hv := hu.trans (hb.mono hu.size); clear hu hb; have hu := hv; clear hv)
    | (go_at_call 6; ((with_reducible refine (C4.out _ hu).mono ?_); rintro e w9 ⟨rfl, hb⟩); have hv := hu.trans (hb.mono hu.size); clear hu hb; have hu := hv; clear hv)
    | (go_at_call 6; ((with_reducible refine (C5.out _ hu).mono ?_); rintro e w9 ⟨rfl, hb⟩); have hv := hu.trans (hb.mono hu.size); clear hu hb; have hu := hv; clear hv)
    | (go_at_call 6; ((with_reducible refine (C6.out _ hu).mono ?_); rintro e w9 ⟨rfl, hb⟩); have hv := hu.trans (hb.mono hu.size); clear hu hb; have hu := hv; clear hv)
    | (go_at_call 6; ((with_reducible refine (C7.out _ hu).mono ?_); rintro e w9 ⟨rfl, hb⟩); have hv := hu.trans (hb.mono hu.size); clear hu hb; have hu := hv; clear hv)
    | (go_at_call 6; ((with_reducible refine (C8.out _ hu).mono ?_); rintro e w9 ⟨rfl, hb⟩); have hv := hu.trans (hb.mono hu.size); clear hu hb; have hu := hv; clear hv))
  go_ret
  exact ⟨by simp, hu⟩
set_option maxRecDepth 100000 in
set_option maxHeartbeats 1600000 in
theorem long_hi_hi (x y z : Nat) (a : Int) (ha : 2305843009213693952 < a) (b : Int) (hb : 2305843009213693952 < b) (w : World) (hx : x < 4294967296) (hy : y < 4294967296) (hz : z < 4294967296) (hT : TabW w) :
    Calls Tryd.prog 4 #[.int .u32 x, .int .u32 y, .int .u32 z, .int .i64 a, .int .i64 b] w fun e w' => e = .returned (.bool true) ∧ Below w.heap.size w w' := by
  have hA : zerosN x 5 < 4294967296 := zerosN_lt _ _
  have hB : zerosN y 5 < 4294967296 := zerosN_lt _ _
  have hxz : x ^^^ z < 4294967296 := xor_lt hx hz
  have hyz : y ^^^ z < 4294967296 := xor_lt hy hz
  have hF : zerosN x 7 < 4294967296 := zerosN_lt _ _
  have P := fun u (hu : Below w.heap.size w u) (s : Nat) (k : Nat) (ki : Int) (hki : ki = k) (hs : s < 4294967296) (hk : k ≤ 4611686018427387904) => show Calls Tryd.prog 6 #[.int .u32 s, .int .i64 ki] u fun e w' => e = .returned (.int .u32 (zerosN s k : Nat)) ∧ Below u.heap.size u w' by
    subst hki
    have := zerosP s k u hs (by omega) (by omega) (hT.below hu)
    rwa [show ((k : Nat) : Int).toNat = k by omega] at this
  have C1 := Lib.hid (fun u hu => P u hu x 5 5 rfl hx (by omega))
  have C2 := Lib.hid (fun u hu => P u hu y 5 5 rfl hy (by omega))
  have C3 := Lib.hid (fun u hu => P u hu (x ^^^ z) 5 5 rfl hxz (by omega))
  have C4 := Lib.hid (fun u hu => P u hu (y ^^^ z) 5 5 rfl hyz (by omega))
  have C5 := Lib.hid (fun u hu => P u hu (zerosN x 5) 7 7 rfl hA (by omega))
  have C6 := Lib.hid (fun u hu => P u hu x 7 7 rfl hx (by omega))
  have C7 := Lib.hid (fun u hu => P u hu (zerosN x 7) 5 5 rfl hF (by omega))
  have C8 := Lib.hid (fun u hu => P u hu x (5 + 7) 12 (by omega) hx (by omega))
  have X1 := xor32 hx hz
  have X2 := xor32 hy hz
  have X3 := xor32 hA hB
  have X4 := xor32 (zerosN_lt (x ^^^ z) 5) (zerosN_lt (y ^^^ z) 5)
  rw [turned_eq x y z 5 hx hy hz] at X4
  have X5 := apart_zero x y 5 hx hy
  rw [zerosN_add x 5 7 hx] at C5
  rw [zerosN_add x 7 5 hx, Nat.add_comm 7 5] at C7
  clear P hF hT
  obtain ⟨xz, hxze⟩ : ∃ xz, x ^^^ z = xz := ⟨_, rfl⟩
  obtain ⟨yz, hyze⟩ : ∃ yz, y ^^^ z = yz := ⟨_, rfl⟩
  obtain ⟨ap, hap⟩ : ∃ ap, zerosN x 5 ^^^ zerosN y 5 = ap := ⟨_, rfl⟩
  obtain ⟨A, hAe⟩ : ∃ A, zerosN x 5 = A := ⟨_, rfl⟩
  obtain ⟨Bv, hBe⟩ : ∃ Bv, zerosN y 5 = Bv := ⟨_, rfl⟩
  obtain ⟨F, hFe⟩ : ∃ F, zerosN x 7 = F := ⟨_, rfl⟩
  obtain ⟨E, hEe⟩ : ∃ E, zerosN x (5 + 7) = E := ⟨_, rfl⟩
  rw [hap] at X3 X4 X5
  rw [hxze] at C3 X1 X4
  rw [hyze] at C4 X2 X4
  obtain ⟨Cv, hCe⟩ : ∃ Cv, zerosN xz 5 = Cv := ⟨_, rfl⟩
  obtain ⟨Dv, hDe⟩ : ∃ Dv, zerosN yz 5 = Dv := ⟨_, rfl⟩
  rw [hAe] at C1 C5 X3
  rw [hBe] at C2 X3
  rw [hCe] at C3 X4
  rw [hDe] at C4 X4
  rw [hFe] at C6 C7
  rw [hEe] at C5 C7 C8
  have hq : ((ap : Int) == 0) = ((x : Int) == y) := by
    rw [Bool.eq_iff_iff]
    simp only [beq_iff_eq]
    constructor
    · intro h
      have := X5.1 (by omega)
      omega
    · intro h
      have := X5.2 (by omega)
      omega
  obtain ⟨bq, hbq⟩ : ∃ bq, ((x : Int) == y) = bq := ⟨_, rfl⟩
  rw [hbq] at hq
  have hap2 : ((ap : Int) == ap) = true := by simp
  have hE2 : ((E : Int) == E) = true := by simp
  have hbb : (bq == bq) = true := by simp
  have hu := Below.refl w.heap.size w
  clear X5 hap hAe hBe hCe hDe hFe hEe hxze hyze hA hB hxz hyz hx hy hz
  have ha0 : 0 ≤ a := by omega
  have hb0 : 0 ≤ b := by omega
  go_enter Tryd.func4, Tryd.ntmps4
  go_wp2_with (first
    | (simp only [X1])
    | (simp only [X2])
    | (simp only [X3])
    | (simp only [X4])
    | (go_at_call 5; go_must (refine (Laws.answers _).mono ?_; rintro e w9 ⟨rfl, hb⟩; have hv := hu.trans (hb.mono hu.size); clear hu hb; have hu := hv; clear hv))
    | (go_at_call 6; ((with_reducible refine (C1.out _ hu).mono ?_); rintro e w9 ⟨rfl, hb⟩); have hv := hu.trans (hb.mono hu.size); clear hu hb; have hu := hv; clear hv)
    | (go_at_call 6; ((with_reducible refine (C2.out _ hu).mono ?_); rintro e w9 ⟨rfl, hb⟩); have hv := hu.trans (hb.mono hu.size); clear hu hb; have hu := hv; clear hv)
    | (go_at_call 6; ((with_reducible refine (C3.out _ hu).mono ?_); rintro e w9 ⟨rfl, hb⟩); have hv := hu.trans (hb.mono hu.size); clear hu hb; have hu := hv; clear hv)
    | (go_at_call 6; ((with_reducible refine (C4.out _ hu).mono ?_); rintro e w9 ⟨rfl, hb⟩); have hv := hu.trans (hb.mono hu.size); clear hu hb; have hu := hv; clear hv)
    | (go_at_call 6; ((with_reducible refine (C5.out _ hu).mono ?_); rintro e w9 ⟨rfl, hb⟩); have hv := hu.trans (hb.mono hu.size); clear hu hb; have hu := hv; clear hv)
    | (go_at_call 6; ((with_reducible refine (C6.out _ hu).mono ?_); rintro e w9 ⟨rfl, hb⟩); have hv := hu.trans (hb.mono hu.size); clear hu hb; have hu := hv; clear hv)
    | (go_at_call 6; ((with_reducible refine (C7.out _ hu).mono ?_); rintro e w9 ⟨rfl, hb⟩); have hv := hu.trans (hb.mono hu.size); clear hu hb; have hu := hv; clear hv)
    | (go_at_call 6; ((with_reducible refine (C8.out _ hu).mono ?_); rintro e w9 ⟨rfl, hb⟩); have hv := hu.trans (hb.mono hu.size); clear hu hb; have hu := hv; clear hv))
  go_ret
  exact ⟨by simp, hu⟩
set_option maxRecDepth 100000 in
set_option maxHeartbeats 1600000 in
theorem long_hi_in (x y z : Nat) (a : Int) (ha : 2305843009213693952 < a) (N : Nat) (hN : N ≤ 2305843009213693952) (w : World) (hx : x < 4294967296) (hy : y < 4294967296) (hz : z < 4294967296) (hT : TabW w) :
    Calls Tryd.prog 4 #[.int .u32 x, .int .u32 y, .int .u32 z, .int .i64 a, .int .i64 (N : Nat)] w fun e w' => e = .returned (.bool true) ∧ Below w.heap.size w w' := by
  have hA : zerosN x 5 < 4294967296 := zerosN_lt _ _
  have hB : zerosN y 5 < 4294967296 := zerosN_lt _ _
  have hxz : x ^^^ z < 4294967296 := xor_lt hx hz
  have hyz : y ^^^ z < 4294967296 := xor_lt hy hz
  have hF : zerosN x N < 4294967296 := zerosN_lt _ _
  have P := fun u (hu : Below w.heap.size w u) (s : Nat) (k : Nat) (ki : Int) (hki : ki = k) (hs : s < 4294967296) (hk : k ≤ 4611686018427387904) => show Calls Tryd.prog 6 #[.int .u32 s, .int .i64 ki] u fun e w' => e = .returned (.int .u32 (zerosN s k : Nat)) ∧ Below u.heap.size u w' by
    subst hki
    have := zerosP s k u hs (by omega) (by omega) (hT.below hu)
    rwa [show ((k : Nat) : Int).toNat = k by omega] at this
  have C1 := Lib.hid (fun u hu => P u hu x 5 5 rfl hx (by omega))
  have C2 := Lib.hid (fun u hu => P u hu y 5 5 rfl hy (by omega))
  have C3 := Lib.hid (fun u hu => P u hu (x ^^^ z) 5 5 rfl hxz (by omega))
  have C4 := Lib.hid (fun u hu => P u hu (y ^^^ z) 5 5 rfl hyz (by omega))
  have C5 := Lib.hid (fun u hu => P u hu (zerosN x 5) N N rfl hA (by omega))
  have C6 := Lib.hid (fun u hu => P u hu x N N rfl hx (by omega))
  have C7 := Lib.hid (fun u hu => P u hu (zerosN x N) 5 5 rfl hF (by omega))
  have C8 := Lib.hid (fun u hu => P u hu x (5 + N) (5 + (N : Int)) (by omega) hx (by omega))
  have X1 := xor32 hx hz
  have X2 := xor32 hy hz
  have X3 := xor32 hA hB
  have X4 := xor32 (zerosN_lt (x ^^^ z) 5) (zerosN_lt (y ^^^ z) 5)
  rw [turned_eq x y z 5 hx hy hz] at X4
  have X5 := apart_zero x y 5 hx hy
  rw [zerosN_add x 5 N hx] at C5
  rw [zerosN_add x N 5 hx, Nat.add_comm N 5] at C7
  clear P hF hT
  obtain ⟨xz, hxze⟩ : ∃ xz, x ^^^ z = xz := ⟨_, rfl⟩
  obtain ⟨yz, hyze⟩ : ∃ yz, y ^^^ z = yz := ⟨_, rfl⟩
  obtain ⟨ap, hap⟩ : ∃ ap, zerosN x 5 ^^^ zerosN y 5 = ap := ⟨_, rfl⟩
  obtain ⟨A, hAe⟩ : ∃ A, zerosN x 5 = A := ⟨_, rfl⟩
  obtain ⟨Bv, hBe⟩ : ∃ Bv, zerosN y 5 = Bv := ⟨_, rfl⟩
  obtain ⟨F, hFe⟩ : ∃ F, zerosN x N = F := ⟨_, rfl⟩
  obtain ⟨E, hEe⟩ : ∃ E, zerosN x (5 + N) = E := ⟨_, rfl⟩
  rw [hap] at X3 X4 X5
  rw [hxze] at C3 X1 X4
  rw [hyze] at C4 X2 X4
  obtain ⟨Cv, hCe⟩ : ∃ Cv, zerosN xz 5 = Cv := ⟨_, rfl⟩
  obtain ⟨Dv, hDe⟩ : ∃ Dv, zerosN yz 5 = Dv := ⟨_, rfl⟩
  rw [hAe] at C1 C5 X3
  rw [hBe] at C2 X3
  rw [hCe] at C3 X4
  rw [hDe] at C4 X4
  rw [hFe] at C6 C7
  rw [hEe] at C5 C7 C8
  have hq : ((ap : Int) == 0) = ((x : Int) == y) := by
    rw [Bool.eq_iff_iff]
    simp only [beq_iff_eq]
    constructor
    · intro h
      have := X5.1 (by omega)
      omega
    · intro h
      have := X5.2 (by omega)
      omega
  obtain ⟨bq, hbq⟩ : ∃ bq, ((x : Int) == y) = bq := ⟨_, rfl⟩
  rw [hbq] at hq
  have hap2 : ((ap : Int) == ap) = true := by simp
  have hE2 : ((E : Int) == E) = true := by simp
  have hbb : (bq == bq) = true := by simp
  have hu := Below.refl w.heap.size w
  clear X5 hap hAe hBe hCe hDe hFe hEe hxze hyze hA hB hxz hyz hx hy hz
  have ha0 : 0 ≤ a := by omega
  go_enter Tryd.func4, Tryd.ntmps4
  go_wp2_with (first
    | (simp only [X1])
    | (simp only [X2])
    | (simp only [X3])
    | (simp only [X4])
    | (go_at_call 5; go_must (refine (Laws.answers _).mono ?_; rintro e w9 ⟨rfl, hb⟩; have hv := hu.trans (hb.mono hu.size); clear hu hb; have hu := hv; clear hv))
    | (go_at_call 6; ((with_reducible refine (C1.out _ hu).mono ?_); rintro e w9 ⟨rfl, hb⟩); have hv := hu.trans (hb.mono hu.size); clear hu hb; have hu := hv; clear hv)
    | (go_at_call 6; ((with_reducible refine (C2.out _ hu).mono ?_); rintro e w9 ⟨rfl, hb⟩); have hv := hu.trans (hb.mono hu.size); clear hu hb; have hu := hv; clear hv)
    | (go_at_call 6; ((with_reducible refine (C3.out _ hu).mono ?_); rintro e w9 ⟨rfl, hb⟩); have hv := hu.trans (hb.mono hu.size); clear hu hb; have hu := hv; clear hv)
    | (go_at_call 6; ((with_reducible refine (C4.out _ hu).mono ?_); rintro e w9 ⟨rfl, hb⟩); have hv := hu.trans (hb.mono hu.size); clear hu hb; have hu := hv; clear hv)
    | (go_at_call 6; ((with_reducible refine (C5.out _ hu).mono ?_); rintro e w9 ⟨rfl, hb⟩); have hv := hu.trans (hb.mono hu.size); clear hu hb; have hu := hv; clear hv)
    | (go_at_call 6; ((with_reducible refine (C6.out _ hu).mono ?_); rintro e w9 ⟨rfl, hb⟩); have hv := hu.trans (hb.mono hu.size); clear hu hb; have hu := hv; clear hv)
    | (go_at_call 6; ((with_reducible refine (C7.out _ hu).mono ?_); rintro e w9 ⟨rfl, hb⟩); have hv := hu.trans (hb.mono hu.size); clear hu hb; have hu := hv; clear hv)
    | (go_at_call 6; ((with_reducible refine (C8.out _ hu).mono ?_); rintro e w9 ⟨rfl, hb⟩); have hv := hu.trans (hb.mono hu.size); clear hu hb; have hu := hv; clear hv))
  go_ret
  exact ⟨by simp, hu⟩
set_option maxRecDepth 100000 in
set_option maxHeartbeats 1600000 in
theorem long_in_lo (x y z : Nat) (M : Nat) (hM : M ≤ 2305843009213693952) (b : Int) (hb : b < 0) (w : World) (hx : x < 4294967296) (hy : y < 4294967296) (hz : z < 4294967296) (hT : TabW w) :
    Calls Tryd.prog 4 #[.int .u32 x, .int .u32 y, .int .u32 z, .int .i64 (M : Nat), .int .i64 b] w fun e w' => e = .returned (.bool true) ∧ Below w.heap.size w w' := by
  have hA : zerosN x M < 4294967296 := zerosN_lt _ _
  have hB : zerosN y M < 4294967296 := zerosN_lt _ _
  have hxz : x ^^^ z < 4294967296 := xor_lt hx hz
  have hyz : y ^^^ z < 4294967296 := xor_lt hy hz
  have hF : zerosN x 7 < 4294967296 := zerosN_lt _ _
  have P := fun u (hu : Below w.heap.size w u) (s : Nat) (k : Nat) (ki : Int) (hki : ki = k) (hs : s < 4294967296) (hk : k ≤ 4611686018427387904) => show Calls Tryd.prog 6 #[.int .u32 s, .int .i64 ki] u fun e w' => e = .returned (.int .u32 (zerosN s k : Nat)) ∧ Below u.heap.size u w' by
    subst hki
    have := zerosP s k u hs (by omega) (by omega) (hT.below hu)
    rwa [show ((k : Nat) : Int).toNat = k by omega] at this
  have C1 := Lib.hid (fun u hu => P u hu x M M rfl hx (by omega))
  have C2 := Lib.hid (fun u hu => P u hu y M M rfl hy (by omega))
  have C3 := Lib.hid (fun u hu => P u hu (x ^^^ z) M M rfl hxz (by omega))
  have C4 := Lib.hid (fun u hu => P u hu (y ^^^ z) M M rfl hyz (by omega))
  have C5 := Lib.hid (fun u hu => P u hu (zerosN x M) 7 7 rfl hA (by omega))
  have C6 := Lib.hid (fun u hu => P u hu x 7 7 rfl hx (by omega))
  have C7 := Lib.hid (fun u hu => P u hu (zerosN x 7) M M rfl hF (by omega))
  have C8 := Lib.hid (fun u hu => P u hu x (M + 7) ((M : Int) + 7) (by omega) hx (by omega))
  have X1 := xor32 hx hz
  have X2 := xor32 hy hz
  have X3 := xor32 hA hB
  have X4 := xor32 (zerosN_lt (x ^^^ z) M) (zerosN_lt (y ^^^ z) M)
  rw [turned_eq x y z M hx hy hz] at X4
  have X5 := apart_zero x y M hx hy
  rw [zerosN_add x M 7 hx] at C5
  rw [zerosN_add x 7 M hx, Nat.add_comm 7 M] at C7
  clear P hF hT
  obtain ⟨xz, hxze⟩ : ∃ xz, x ^^^ z = xz := ⟨_, rfl⟩
  obtain ⟨yz, hyze⟩ : ∃ yz, y ^^^ z = yz := ⟨_, rfl⟩
  obtain ⟨ap, hap⟩ : ∃ ap, zerosN x M ^^^ zerosN y M = ap := ⟨_, rfl⟩
  obtain ⟨A, hAe⟩ : ∃ A, zerosN x M = A := ⟨_, rfl⟩
  obtain ⟨Bv, hBe⟩ : ∃ Bv, zerosN y M = Bv := ⟨_, rfl⟩
  obtain ⟨F, hFe⟩ : ∃ F, zerosN x 7 = F := ⟨_, rfl⟩
  obtain ⟨E, hEe⟩ : ∃ E, zerosN x (M + 7) = E := ⟨_, rfl⟩
  rw [hap] at X3 X4 X5
  rw [hxze] at C3 X1 X4
  rw [hyze] at C4 X2 X4
  obtain ⟨Cv, hCe⟩ : ∃ Cv, zerosN xz M = Cv := ⟨_, rfl⟩
  obtain ⟨Dv, hDe⟩ : ∃ Dv, zerosN yz M = Dv := ⟨_, rfl⟩
  rw [hAe] at C1 C5 X3
  rw [hBe] at C2 X3
  rw [hCe] at C3 X4
  rw [hDe] at C4 X4
  rw [hFe] at C6 C7
  rw [hEe] at C5 C7 C8
  have hq : ((ap : Int) == 0) = ((x : Int) == y) := by
    rw [Bool.eq_iff_iff]
    simp only [beq_iff_eq]
    constructor
    · intro h
      have := X5.1 (by omega)
      omega
    · intro h
      have := X5.2 (by omega)
      omega
  obtain ⟨bq, hbq⟩ : ∃ bq, ((x : Int) == y) = bq := ⟨_, rfl⟩
  rw [hbq] at hq
  have hap2 : ((ap : Int) == ap) = true := by simp
  have hE2 : ((E : Int) == E) = true := by simp
  have hbb : (bq == bq) = true := by simp
  have hu := Below.refl w.heap.size w
  clear X5 hap hAe hBe hCe hDe hFe hEe hxze hyze hA hB hxz hyz hx hy hz
  go_enter Tryd.func4, Tryd.ntmps4
  go_wp2_with (first
    | (simp only [X1])
    | (simp only [X2])
    | (simp only [X3])
    | (simp only [X4])
    | (go_at_call 5; go_must (refine (Laws.answers _).mono ?_; rintro e w9 ⟨rfl, hb⟩; have hv := hu.trans (hb.mono hu.size); clear hu hb; have hu := hv; clear hv))
    | (go_at_call 6; ((with_reducible refine (C1.out _ hu).mono ?_); rintro e w9 ⟨rfl, hb⟩); have hv := hu.trans (hb.mono hu.size); clear hu hb; have hu := hv; clear hv)
    | (go_at_call 6; ((with_reducible refine (C2.out _ hu).mono ?_); rintro e w9 ⟨rfl, hb⟩); have hv := hu.trans (hb.mono hu.size); clear hu hb; have hu := hv; clear hv)
    | (go_at_call 6; ((with_reducible refine (C3.out _ hu).mono ?_); rintro e w9 ⟨rfl, hb⟩); have hv := hu.trans (hb.mono hu.size); clear hu hb; have hu := hv; clear hv)
    | (go_at_call 6; ((with_reducible refine (C4.out _ hu).mono ?_); rintro e w9 ⟨rfl, hb⟩); have hv := hu.trans (hb.mono hu.size); clear hu hb; have hu := hv; clear hv)
    | (go_at_call 6; ((with_reducible refine (C5.out _ hu).mono ?_); rintro e w9 ⟨rfl, hb⟩); have hv := hu.trans (hb.mono hu.size); clear hu hb; have hu := hv; clear hv)
    | (go_at_call 6; ((with_reducible refine (C6.out _ hu).mono ?_); rintro e w9 ⟨rfl, hb⟩); have hv := hu.trans (hb.mono hu.size); clear hu hb; have hu := hv; clear hv)
    | (go_at_call 6; ((with_reducible refine (C7.out _ hu).mono ?_); rintro e w9 ⟨rfl, hb⟩); have hv := hu.trans (hb.mono hu.size); clear hu hb; have hu := hv; clear hv)
    | (go_at_call 6; ((with_reducible refine (C8.out _ hu).mono ?_); rintro e w9 ⟨rfl, hb⟩); have hv := hu.trans (hb.mono hu.size); clear hu hb; have hu := hv; clear hv))
  go_ret
  exact ⟨by simp, hu⟩
set_option maxRecDepth 100000 in
set_option maxHeartbeats 1600000 in
theorem long_in_hi (x y z : Nat) (M : Nat) (hM : M ≤ 2305843009213693952) (b : Int) (hb : 2305843009213693952 < b) (w : World) (hx : x < 4294967296) (hy : y < 4294967296) (hz : z < 4294967296) (hT : TabW w) :
    Calls Tryd.prog 4 #[.int .u32 x, .int .u32 y, .int .u32 z, .int .i64 (M : Nat), .int .i64 b] w fun e w' => e = .returned (.bool true) ∧ Below w.heap.size w w' := by
  have hA : zerosN x M < 4294967296 := zerosN_lt _ _
  have hB : zerosN y M < 4294967296 := zerosN_lt _ _
  have hxz : x ^^^ z < 4294967296 := xor_lt hx hz
  have hyz : y ^^^ z < 4294967296 := xor_lt hy hz
  have hF : zerosN x 7 < 4294967296 := zerosN_lt _ _
  have P := fun u (hu : Below w.heap.size w u) (s : Nat) (k : Nat) (ki : Int) (hki : ki = k) (hs : s < 4294967296) (hk : k ≤ 4611686018427387904) => show Calls Tryd.prog 6 #[.int .u32 s, .int .i64 ki] u fun e w' => e = .returned (.int .u32 (zerosN s k : Nat)) ∧ Below u.heap.size u w' by
    subst hki
    have := zerosP s k u hs (by omega) (by omega) (hT.below hu)
    rwa [show ((k : Nat) : Int).toNat = k by omega] at this
  have C1 := Lib.hid (fun u hu => P u hu x M M rfl hx (by omega))
  have C2 := Lib.hid (fun u hu => P u hu y M M rfl hy (by omega))
  have C3 := Lib.hid (fun u hu => P u hu (x ^^^ z) M M rfl hxz (by omega))
  have C4 := Lib.hid (fun u hu => P u hu (y ^^^ z) M M rfl hyz (by omega))
  have C5 := Lib.hid (fun u hu => P u hu (zerosN x M) 7 7 rfl hA (by omega))
  have C6 := Lib.hid (fun u hu => P u hu x 7 7 rfl hx (by omega))
  have C7 := Lib.hid (fun u hu => P u hu (zerosN x 7) M M rfl hF (by omega))
  have C8 := Lib.hid (fun u hu => P u hu x (M + 7) ((M : Int) + 7) (by omega) hx (by omega))
  have X1 := xor32 hx hz
  have X2 := xor32 hy hz
  have X3 := xor32 hA hB
  have X4 := xor32 (zerosN_lt (x ^^^ z) M) (zerosN_lt (y ^^^ z) M)
  rw [turned_eq x y z M hx hy hz] at X4
  have X5 := apart_zero x y M hx hy
  rw [zerosN_add x M 7 hx] at C5
  rw [zerosN_add x 7 M hx, Nat.add_comm 7 M] at C7
  clear P hF hT
  obtain ⟨xz, hxze⟩ : ∃ xz, x ^^^ z = xz := ⟨_, rfl⟩
  obtain ⟨yz, hyze⟩ : ∃ yz, y ^^^ z = yz := ⟨_, rfl⟩
  obtain ⟨ap, hap⟩ : ∃ ap, zerosN x M ^^^ zerosN y M = ap := ⟨_, rfl⟩
  obtain ⟨A, hAe⟩ : ∃ A, zerosN x M = A := ⟨_, rfl⟩
  obtain ⟨Bv, hBe⟩ : ∃ Bv, zerosN y M = Bv := ⟨_, rfl⟩
  obtain ⟨F, hFe⟩ : ∃ F, zerosN x 7 = F := ⟨_, rfl⟩
  obtain ⟨E, hEe⟩ : ∃ E, zerosN x (M + 7) = E := ⟨_, rfl⟩
  rw [hap] at X3 X4 X5
  rw [hxze] at C3 X1 X4
  rw [hyze] at C4 X2 X4
  obtain ⟨Cv, hCe⟩ : ∃ Cv, zerosN xz M = Cv := ⟨_, rfl⟩
  obtain ⟨Dv, hDe⟩ : ∃ Dv, zerosN yz M = Dv := ⟨_, rfl⟩
  rw [hAe] at C1 C5 X3
  rw [hBe] at C2 X3
  rw [hCe] at C3 X4
  rw [hDe] at C4 X4
  rw [hFe] at C6 C7
  rw [hEe] at C5 C7 C8
  have hq : ((ap : Int) == 0) = ((x : Int) == y) := by
    rw [Bool.eq_iff_iff]
    simp only [beq_iff_eq]
    constructor
    · intro h
      have := X5.1 (by omega)
      omega
    · intro h
      have := X5.2 (by omega)
      omega
  obtain ⟨bq, hbq⟩ : ∃ bq, ((x : Int) == y) = bq := ⟨_, rfl⟩
  rw [hbq] at hq
  have hap2 : ((ap : Int) == ap) = true := by simp
  have hE2 : ((E : Int) == E) = true := by simp
  have hbb : (bq == bq) = true := by simp
  have hu := Below.refl w.heap.size w
  clear X5 hap hAe hBe hCe hDe hFe hEe hxze hyze hA hB hxz hyz hx hy hz
  have hb0 : 0 ≤ b := by omega
  go_enter Tryd.func4, Tryd.ntmps4
  go_wp2_with (first
    | (simp only [X1])
    | (simp only [X2])
    | (simp only [X3])
    | (simp only [X4])
    | (go_at_call 5; go_must (refine (Laws.answers _).mono ?_; rintro e w9 ⟨rfl, hb⟩; have hv := hu.trans (hb.mono hu.size); clear hu hb; have hu := hv; clear hv))
    | (go_at_call 6; ((with_reducible refine (C1.out _ hu).mono ?_); rintro e w9 ⟨rfl, hb⟩); have hv := hu.trans (hb.mono hu.size); clear hu hb; have hu := hv; clear hv)
    | (go_at_call 6; ((with_reducible refine (C2.out _ hu).mono ?_); rintro e w9 ⟨rfl, hb⟩); have hv := hu.trans (hb.mono hu.size); clear hu hb; have hu := hv; clear hv)
    | (go_at_call 6; ((with_reducible refine (C3.out _ hu).mono ?_); rintro e w9 ⟨rfl, hb⟩); have hv := hu.trans (hb.mono hu.size); clear hu hb; have hu := hv; clear hv)
    | (go_at_call 6; ((with_reducible refine (C4.out _ hu).mono ?_); rintro e w9 ⟨rfl, hb⟩); have hv := hu.trans (hb.mono hu.size); clear hu hb; have hu := hv; clear hv)
    | (go_at_call 6; ((with_reducible refine (C5.out _ hu).mono ?_); rintro e w9 ⟨rfl, hb⟩); have hv := hu.trans (hb.mono hu.size); clear hu hb; have hu := hv; clear hv)
    | (go_at_call 6; ((with_reducible refine (C6.out _ hu).mono ?_); rintro e w9 ⟨rfl, hb⟩); have hv := hu.trans (hb.mono hu.size); clear hu hb; have hu := hv; clear hv)
    | (go_at_call 6; ((with_reducible refine (C7.out _ hu).mono ?_); rintro e w9 ⟨rfl, hb⟩); have hv := hu.trans (hb.mono hu.size); clear hu hb; have hu := hv; clear hv)
    | (go_at_call 6; ((with_reducible refine (C8.out _ hu).mono ?_); rintro e w9 ⟨rfl, hb⟩); have hv := hu.trans (hb.mono hu.size); clear hu hb; have hu := hv; clear hv))
  go_ret
  exact ⟨by simp, hu⟩
set_option maxRecDepth 100000 in
set_option maxHeartbeats 1600000 in
theorem long_in_in (x y z : Nat) (M : Nat) (hM : M ≤ 2305843009213693952) (N : Nat) (hN : N ≤ 2305843009213693952) (w : World) (hx : x < 4294967296) (hy : y < 4294967296) (hz : z < 4294967296) (hT : TabW w) :
    Calls Tryd.prog 4 #[.int .u32 x, .int .u32 y, .int .u32 z, .int .i64 (M : Nat), .int .i64 (N : Nat)] w fun e w' => e = .returned (.bool true) ∧ Below w.heap.size w w' := by
  have hA : zerosN x M < 4294967296 := zerosN_lt _ _
  have hB : zerosN y M < 4294967296 := zerosN_lt _ _
  have hxz : x ^^^ z < 4294967296 := xor_lt hx hz
  have hyz : y ^^^ z < 4294967296 := xor_lt hy hz
  have hF : zerosN x N < 4294967296 := zerosN_lt _ _
  have P := fun u (hu : Below w.heap.size w u) (s : Nat) (k : Nat) (ki : Int) (hki : ki = k) (hs : s < 4294967296) (hk : k ≤ 4611686018427387904) => show Calls Tryd.prog 6 #[.int .u32 s, .int .i64 ki] u fun e w' => e = .returned (.int .u32 (zerosN s k : Nat)) ∧ Below u.heap.size u w' by
    subst hki
    have := zerosP s k u hs (by omega) (by omega) (hT.below hu)
    rwa [show ((k : Nat) : Int).toNat = k by omega] at this
  have C1 := Lib.hid (fun u hu => P u hu x M M rfl hx (by omega))
  have C2 := Lib.hid (fun u hu => P u hu y M M rfl hy (by omega))
  have C3 := Lib.hid (fun u hu => P u hu (x ^^^ z) M M rfl hxz (by omega))
  have C4 := Lib.hid (fun u hu => P u hu (y ^^^ z) M M rfl hyz (by omega))
  have C5 := Lib.hid (fun u hu => P u hu (zerosN x M) N N rfl hA (by omega))
  have C6 := Lib.hid (fun u hu => P u hu x N N rfl hx (by omega))
  have C7 := Lib.hid (fun u hu => P u hu (zerosN x N) M M rfl hF (by omega))
  have C8 := Lib.hid (fun u hu => P u hu x (M + N) ((M : Int) + N) (by omega) hx (by omega))
  have X1 := xor32 hx hz
  have X2 := xor32 hy hz
  have X3 := xor32 hA hB
  have X4 := xor32 (zerosN_lt (x ^^^ z) M) (zerosN_lt (y ^^^ z) M)
  rw [turned_eq x y z M hx hy hz] at X4
  have X5 := apart_zero x y M hx hy
  rw [zerosN_add x M N hx] at C5
  rw [zerosN_add x N M hx, Nat.add_comm N M] at C7
  clear P hF hT
  obtain ⟨xz, hxze⟩ : ∃ xz, x ^^^ z = xz := ⟨_, rfl⟩
  obtain ⟨yz, hyze⟩ : ∃ yz, y ^^^ z = yz := ⟨_, rfl⟩
  obtain ⟨ap, hap⟩ : ∃ ap, zerosN x M ^^^ zerosN y M = ap := ⟨_, rfl⟩
  obtain ⟨A, hAe⟩ : ∃ A, zerosN x M = A := ⟨_, rfl⟩
  obtain ⟨Bv, hBe⟩ : ∃ Bv, zerosN y M = Bv := ⟨_, rfl⟩
  obtain ⟨F, hFe⟩ : ∃ F, zerosN x N = F := ⟨_, rfl⟩
  obtain ⟨E, hEe⟩ : ∃ E, zerosN x (M + N) = E := ⟨_, rfl⟩
  rw [hap] at X3 X4 X5
  rw [hxze] at C3 X1 X4
  rw [hyze] at C4 X2 X4
  obtain ⟨Cv, hCe⟩ : ∃ Cv, zerosN xz M = Cv := ⟨_, rfl⟩
  obtain ⟨Dv, hDe⟩ : ∃ Dv, zerosN yz M = Dv := ⟨_, rfl⟩
  rw [hAe] at C1 C5 X3
  rw [hBe] at C2 X3
  rw [hCe] at C3 X4
  rw [hDe] at C4 X4
  rw [hFe] at C6 C7
  rw [hEe] at C5 C7 C8
  have hq : ((ap : Int) == 0) = ((x : Int) == y) := by
    rw [Bool.eq_iff_iff]
    simp only [beq_iff_eq]
    constructor
    · intro h
      have := X5.1 (by omega)
      omega
    · intro h
      have := X5.2 (by omega)
      omega
  obtain ⟨bq, hbq⟩ : ∃ bq, ((x : Int) == y) = bq := ⟨_, rfl⟩
  rw [hbq] at hq
  have hap2 : ((ap : Int) == ap) = true := by simp
  have hE2 : ((E : Int) == E) = true := by simp
  have hbb : (bq == bq) = true := by simp
  have hu := Below.refl w.heap.size w
  clear X5 hap hAe hBe hCe hDe hFe hEe hxze hyze hA hB hxz hyz hx hy hz
  go_enter Tryd.func4, Tryd.ntmps4
  go_wp2_with (first
    | (simp only [X1])
    | (simp only [X2])
    | (simp only [X3])
    | (simp only [X4])
    | (go_at_call 5; go_must (refine (Laws.answers _).mono ?_; rintro e w9 ⟨rfl, hb⟩; have hv := hu.trans (hb.mono hu.size); clear hu hb; have hu := hv; clear hv))
    | (go_at_call 6; ((with_reducible refine (C1.out _ hu).mono ?_); rintro e w9 ⟨rfl, hb⟩); have hv := hu.trans (hb.mono hu.size); clear hu hb; have hu := hv; clear hv)
    | (go_at_call 6; ((with_reducible refine (C2.out _ hu).mono ?_); rintro e w9 ⟨rfl, hb⟩); have hv := hu.trans (hb.mono hu.size); clear hu hb; have hu := hv; clear hv)
    | (go_at_call 6; ((with_reducible refine (C3.out _ hu).mono ?_); rintro e w9 ⟨rfl, hb⟩); have hv := hu.trans (hb.mono hu.size); clear hu hb; have hu := hv; clear hv)
    | (go_at_call 6; ((with_reducible refine (C4.out _ hu).mono ?_); rintro e w9 ⟨rfl, hb⟩); have hv := hu.trans (hb.mono hu.size); clear hu hb; have hu := hv; clear hv)
    | (go_at_call 6; ((with_reducible refine (C5.out _ hu).mono ?_); rintro e w9 ⟨rfl, hb⟩); have hv := hu.trans (hb.mono hu.size); clear hu hb; have hu := hv; clear hv)
    | (go_at_call 6; ((with_reducible refine (C6.out _ hu).mono ?_); rintro e w9 ⟨rfl, hb⟩); have hv := hu.trans (hb.mono hu.size); clear hu hb; have hu := hv; clear hv)
    | (go_at_call 6; ((with_reducible refine (C7.out _ hu).mono ?_); rintro e w9 ⟨rfl, hb⟩); have hv := hu.trans (hb.mono hu.size); clear hu hb; have hu := hv; clear hv)
    | (go_at_call 6; ((with_reducible refine (C8.out _ hu).mono ?_); rintro e w9 ⟨rfl, hb⟩); have hv := hu.trans (hb.mono hu.size); clear hu hb; have hu := hv; clear hv))
  go_ret
  exact ⟨by simp, hu⟩
theorem long_ (x y z : Nat) (a b : Int) (w : World) (hx : x < 4294967296) (hy : y < 4294967296) (hz : z < 4294967296) (hT : TabW w) :
    Calls Tryd.prog 4 #[.int .u32 x, .int .u32 y, .int .u32 z, .int .i64 a, .int .i64 b] w fun e w' => e = .returned (.bool true) ∧ Below w.heap.size w w' := by
  rcases (show a < 0 ∨ 2305843009213693952 < a ∨ ∃ M : Nat, a = M ∧ M ≤ 2305843009213693952 by
    by_cases h1 : a < 0
    · exact .inl h1
    · by_cases h2 : 2305843009213693952 < a
      · exact .inr (.inl h2)
      · exact .inr (.inr ⟨a.toNat, by omega, by omega⟩)) with ha | ha | ⟨M, rfl, hM⟩
  all_goals
    rcases (show b < 0 ∨ 2305843009213693952 < b ∨ ∃ N : Nat, b = N ∧ N ≤ 2305843009213693952 by
      by_cases h1 : b < 0
      · exact .inl h1
      · by_cases h2 : 2305843009213693952 < b
        · exact .inr (.inl h2)
        · exact .inr (.inr ⟨b.toNat, by omega, by omega⟩)) with hb | hb | ⟨N, rfl, hN⟩
  · exact long_lo_lo x y z a ha b hb w hx hy hz hT
  · exact long_lo_hi x y z a ha b hb w hx hy hz hT
  · exact long_lo_in x y z a ha N hN w hx hy hz hT
  · exact long_hi_lo x y z a ha b hb w hx hy hz hT
  · exact long_hi_hi x y z a ha b hb w hx hy hz hT
  · exact long_hi_in x y z a ha N hN w hx hy hz hT
  · exact long_in_lo x y z M hM b hb w hx hy hz hT
  · exact long_in_hi x y z M hM b hb w hx hy hz hT
  · exact long_in_in x y z M hM N hN w hx hy hz hT
end Go.Proofs.YtfialncobdinnaaDoor.Crc
