/-
  The walk of RealGets.
-/
import Derived.Test.YtljinegonoomcaaReal3
import Derived.Deep.QuietTactic
import Derived.BigQuiet
namespace Go.Proofs.Ytljinegonoomcaa.Real
open Go.RowKit Mem Wire
set_option linter.unusedVariables false
set_option linter.unusedSimpArgs false
attribute [local simp] Mono.DepFacts Mono.want Mono.isV Mono.anyV Mono.Fin readsP Act.eval Act.put Region.binds

set_option maxRecDepth 100000 in
set_option maxHeartbeats 3200000 in
theorem getsA (p : Option Addr) (c : Nat) (xs : List Int) (N : Nat) (w : World) (hr0 : Reads .u8 w (.slice p xs.length c) xs) (hwf : ∀ x ∈ xs, 0 ≤ x ∧ x ≤ 255) (hb : xs.length ≤ 140737488355200) (hN : num xs = (N : Int)) (hl : xs.length < 4) :
    Calls Try.prog 7 #[.slice p xs.length c] w fun e w' => e = .returned (.bool true) ∧ Below w.heap.size w w' := by
  obtain ⟨i0, hi, hz0, hz1, hz2⟩ := info_parts info5
  have K1 : ([] : List Int).length + xs.length ≤ maxLen := by simp [maxLen]; omega
  have K2 : (([] : List Int).length + xs.length) * 1 ≤ 140737488355328 := by simp; omega
  have e1 : exE xs.length 4 = 3 := by unfold exE; rw [if_pos (by omega)]
  have e2 : exE xs.length 8 = 3 := by unfold exE; rw [if_pos (by omega)]
  have n1 : (exN xs 4).toNat = 0 := by unfold exN; rw [if_neg (by omega)]; rfl
  have n2 : (exN xs 8).toNat = 0 := by unfold exN; rw [if_neg (by omega)]; rfl
  have WF := Lib.hid hwf
  have HN := Lib.hid hN
  have HL := Lib.hid hl
  have kf := bits32
  have kg := bits64
  have G32 := Lib.hid (fun v w (h : Reads .u8 w v xs) => by have := get32 v xs w h hwf (by omega); rwa [e1, n1] at this)
  have G64 := Lib.hid (fun v w (h : Reads .u8 w v xs) => by have := get64 v xs w h hwf (by omega); rwa [e2, n2] at this)
  have RG := Lib.hid (fun w (h : Reads .u8 w (.slice p xs.length c) xs) => by
    have := refGet (.slice p xs.length c) xs 0 8 w h hwf (by omega) (by omega) (by omega)
    have pE : partE xs.length 0 8 = 3 := by unfold partE; rw [if_neg (by omega), if_pos (by omega)]
    rw [show getN xs 0 8 = 0 from by unfold getN partL; rw [if_pos (by omega), pE, if_neg (by decide)]; rfl, show getE xs.length 0 8 = 3 from by unfold getE; rw [if_pos (by omega), pE]] at this
    exact this)
  have t0 : (xs.length : Int) < 4 := by omega
  have t1 : ¬ (4 : Int) < (xs.length : Int) := by omega
  have t2 : (xs.length : Int) < 8 := by omega
  have t3 : ¬ (8 : Int) < (xs.length : Int) := by omega
  have hown1 : Row .u8 5 w.heap.size (w.alloc (.cells #[] 5)) (.slice (some ⟨w.heap.size, 0, none⟩) 0 0) [] := World.ownsRow_made _ _ _ (Nat.le_refl _) (by simp [maxLen]) rfl
  have hba1 := (Below.refl w.heap.size w).alloc (Nat.le_refl _) (.cells #[] 5)
  have hr1 := hr0.below hba1
  clear hwf hN hl e1 e2 n1 n2
  go_enter Try.func7, Try.ntmps7
  go_wp2_with (at_builtin; refine wpl_append rfl _ _ 33 rfl .u8 w.heap.size 5 1 i0 (.int .u8 0) Try.underlying33 hi hz0 hz1 hz2 rfl (.slice (some ⟨w.heap.size, 0, none⟩) 0 0) _ [] xs rfl rfl hown1 hr1 K1 K2 (by simp) ?_; intro v1 w1 ho1 hg1)
  have hb1 : Below w.heap.size w w1 := hba1.grown hg1 (by simp) (fun q h => by cases h; exact Nat.le_refl _)
  replace ho1 : Reads .u8 w1 v1 xs := ho1.reads
  clear hown1 hg1 hr1 hba1
  refine (G32.out _ _ ho1).mono ?_
  rintro e w2 ⟨rfl, b2⟩
  have hb2 := Frame.ext hb1 b2
  clear b2 hb1 ho1
  have hown3 : Row .u8 5 w2.heap.size (w2.alloc (.cells #[] 5)) (.slice (some ⟨w2.heap.size, 0, none⟩) 0 0) [] := World.ownsRow_made _ _ _ (Nat.le_refl _) (by simp [maxLen]) rfl
  have hba3 := (Below.refl w2.heap.size w2).alloc (Nat.le_refl _) (.cells #[] 5)
  have hr3 := (hr0.below hb2).below hba3
  go_wp2_with (at_builtin; refine wpl_append rfl _ _ 33 rfl .u8 w2.heap.size 5 1 i0 (.int .u8 0) Try.underlying33 hi hz0 hz1 hz2 rfl (.slice (some ⟨w2.heap.size, 0, none⟩) 0 0) _ [] xs rfl rfl hown3 hr3 K1 K2 (by simp) ?_; intro v3 w3 ho3 hg3)
  have hb3 : Below w2.heap.size w2 w3 := hba3.grown hg3 (by simp) (fun q h => by cases h; exact Nat.le_refl _)
  replace ho3 : Reads .u8 w3 v3 xs := ho3.reads
  have hb3' := Frame.ext hb2 hb3
  clear hown3 hg3 hr3 hba3 hb2 hb3
  refine (G64.out _ _ ho3).mono ?_
  rintro e w4 ⟨rfl, b4⟩
  have hb4 := Frame.ext hb3' b4
  clear b4 hb3' ho3
  go_wp2_with fail
  refine (answers _).mono ?_
  rintro e w5 ⟨rfl, b5⟩
  have hb5 := Frame.ext hb4 b5
  have hr5 := hr0.below hb5
  clear b5 hb4 hr0 K1 K2
  go_wp2_with fail
  go_quiet (fail)
  go_wp2_with fail
  have hr6 : Reads .u8 (w5.drewN nq) (.slice p xs.length c) xs := hr5
  have hb6 : Below w.heap.size w (w5.drewN nq) := ⟨hb5.os, hb5.tape, hb5.output, hb5.size, hb5.block⟩
  clear hr5 hb5
  generalize w5.drewN nq = w6 at hr6 hb6
  refine (RG.out _ hr6).mono ?_
  rintro e w7 ⟨rfl, b7⟩
  have hb7 := Frame.ext hb6 b7
  have hr7 := hr6.below b7
  clear b7 hb6 hr6
  go_wp2_with fail
  go_quiet (fail)
  go_wp2
  go_ret
  exact ⟨rfl, ⟨hb7.os, hb7.tape, hb7.output, hb7.size, hb7.block⟩⟩

set_option maxRecDepth 100000 in
set_option maxHeartbeats 3200000 in
theorem getsC (p : Option Addr) (c : Nat) (xs : List Int) (N : Nat) (w : World) (hr0 : Reads .u8 w (.slice p xs.length c) xs) (hwf : ∀ x ∈ xs, 0 ≤ x ∧ x ≤ 255) (hb : xs.length ≤ 140737488355200) (hN : num xs = (N : Int)) (hl : 4 < xs.length ∧ xs.length < 8) :
    Calls Try.prog 7 #[.slice p xs.length c] w fun e w' => e = .returned (.bool true) ∧ Below w.heap.size w w' := by
  obtain ⟨i0, hi, hz0, hz1, hz2⟩ := info_parts info5
  have K1 : ([] : List Int).length + xs.length ≤ maxLen := by simp [maxLen]; omega
  have K2 : (([] : List Int).length + xs.length) * 1 ≤ 140737488355328 := by simp; omega
  have e1 : exE xs.length 4 = 2 := by unfold exE; rw [if_neg (by omega), if_neg (by omega)]
  have e2 : exE xs.length 8 = 3 := by unfold exE; rw [if_pos (by omega)]
  have n1 : (exN xs 4).toNat = 0 := by unfold exN; rw [if_neg (by omega)]; rfl
  have n2 : (exN xs 8).toNat = 0 := by unfold exN; rw [if_neg (by omega)]; rfl
  have WF := Lib.hid hwf
  have HN := Lib.hid hN
  have HL := Lib.hid hl
  have kf := bits32
  have kg := bits64
  have G32 := Lib.hid (fun v w (h : Reads .u8 w v xs) => by have := get32 v xs w h hwf (by omega); rwa [e1, n1] at this)
  have G64 := Lib.hid (fun v w (h : Reads .u8 w v xs) => by have := get64 v xs w h hwf (by omega); rwa [e2, n2] at this)
  have RG := Lib.hid (fun w (h : Reads .u8 w (.slice p xs.length c) xs) => by
    have := refGet (.slice p xs.length c) xs 0 8 w h hwf (by omega) (by omega) (by omega)
    have pE : partE xs.length 0 8 = 3 := by unfold partE; rw [if_neg (by omega), if_pos (by omega)]
    rw [show getN xs 0 8 = 0 from by unfold getN partL; rw [if_pos (by omega), pE, if_neg (by decide)]; rfl, show getE xs.length 0 8 = 3 from by unfold getE; rw [if_pos (by omega), pE]] at this
    exact this)
  have t0 : ¬ (xs.length : Int) < 4 := by omega
  have t1 : (4 : Int) < (xs.length : Int) := by omega
  have t2 : (xs.length : Int) < 8 := by omega
  have t3 : ¬ (8 : Int) < (xs.length : Int) := by omega
  have hown1 : Row .u8 5 w.heap.size (w.alloc (.cells #[] 5)) (.slice (some ⟨w.heap.size, 0, none⟩) 0 0) [] := World.ownsRow_made _ _ _ (Nat.le_refl _) (by simp [maxLen]) rfl
  have hba1 := (Below.refl w.heap.size w).alloc (Nat.le_refl _) (.cells #[] 5)
  have hr1 := hr0.below hba1
  clear hwf hN hl e1 e2 n1 n2
  go_enter Try.func7, Try.ntmps7
  go_wp2_with (at_builtin; refine wpl_append rfl _ _ 33 rfl .u8 w.heap.size 5 1 i0 (.int .u8 0) Try.underlying33 hi hz0 hz1 hz2 rfl (.slice (some ⟨w.heap.size, 0, none⟩) 0 0) _ [] xs rfl rfl hown1 hr1 K1 K2 (by simp) ?_; intro v1 w1 ho1 hg1)
  have hb1 : Below w.heap.size w w1 := hba1.grown hg1 (by simp) (fun q h => by cases h; exact Nat.le_refl _)
  replace ho1 : Reads .u8 w1 v1 xs := ho1.reads
  clear hown1 hg1 hr1 hba1
  refine (G32.out _ _ ho1).mono ?_
  rintro e w2 ⟨rfl, b2⟩
  have hb2 := Frame.ext hb1 b2
  clear b2 hb1 ho1
  have hown3 : Row .u8 5 w2.heap.size (w2.alloc (.cells #[] 5)) (.slice (some ⟨w2.heap.size, 0, none⟩) 0 0) [] := World.ownsRow_made _ _ _ (Nat.le_refl _) (by simp [maxLen]) rfl
  have hba3 := (Below.refl w2.heap.size w2).alloc (Nat.le_refl _) (.cells #[] 5)
  have hr3 := (hr0.below hb2).below hba3
  go_wp2_with (at_builtin; refine wpl_append rfl _ _ 33 rfl .u8 w2.heap.size 5 1 i0 (.int .u8 0) Try.underlying33 hi hz0 hz1 hz2 rfl (.slice (some ⟨w2.heap.size, 0, none⟩) 0 0) _ [] xs rfl rfl hown3 hr3 K1 K2 (by simp) ?_; intro v3 w3 ho3 hg3)
  have hb3 : Below w2.heap.size w2 w3 := hba3.grown hg3 (by simp) (fun q h => by cases h; exact Nat.le_refl _)
  replace ho3 : Reads .u8 w3 v3 xs := ho3.reads
  have hb3' := Frame.ext hb2 hb3
  clear hown3 hg3 hr3 hba3 hb2 hb3
  refine (G64.out _ _ ho3).mono ?_
  rintro e w4 ⟨rfl, b4⟩
  have hb4 := Frame.ext hb3' b4
  clear b4 hb3' ho3
  go_wp2_with fail
  refine (answers _).mono ?_
  rintro e w5 ⟨rfl, b5⟩
  have hb5 := Frame.ext hb4 b5
  have hr5 := hr0.below hb5
  clear b5 hb4 hr0 K1 K2
  go_wp2_with fail
  go_quiet (fail)
  go_wp2_with fail
  have hr6 : Reads .u8 (w5.drewN nq) (.slice p xs.length c) xs := hr5
  have hb6 : Below w.heap.size w (w5.drewN nq) := ⟨hb5.os, hb5.tape, hb5.output, hb5.size, hb5.block⟩
  clear hr5 hb5
  generalize w5.drewN nq = w6 at hr6 hb6
  refine (RG.out _ hr6).mono ?_
  rintro e w7 ⟨rfl, b7⟩
  have hb7 := Frame.ext hb6 b7
  have hr7 := hr6.below b7
  clear b7 hb6 hr6
  go_wp2_with fail
  go_quiet (fail)
  go_wp2
  go_ret
  exact ⟨rfl, ⟨hb7.os, hb7.tape, hb7.output, hb7.size, hb7.block⟩⟩

set_option maxRecDepth 100000 in
set_option maxHeartbeats 3200000 in
theorem getsE (p : Option Addr) (c : Nat) (xs : List Int) (N : Nat) (w : World) (hr0 : Reads .u8 w (.slice p xs.length c) xs) (hwf : ∀ x ∈ xs, 0 ≤ x ∧ x ≤ 255) (hb : xs.length ≤ 140737488355200) (hN : num xs = (N : Int)) (hl : 8 < xs.length) :
    Calls Try.prog 7 #[.slice p xs.length c] w fun e w' => e = .returned (.bool true) ∧ Below w.heap.size w w' := by
  obtain ⟨i0, hi, hz0, hz1, hz2⟩ := info_parts info5
  have K1 : ([] : List Int).length + xs.length ≤ maxLen := by simp [maxLen]; omega
  have K2 : (([] : List Int).length + xs.length) * 1 ≤ 140737488355328 := by simp; omega
  have e1 : exE xs.length 4 = 2 := by unfold exE; rw [if_neg (by omega), if_neg (by omega)]
  have e2 : exE xs.length 8 = 2 := by unfold exE; rw [if_neg (by omega), if_neg (by omega)]
  have n1 : (exN xs 4).toNat = 0 := by unfold exN; rw [if_neg (by omega)]; rfl
  have n2 : (exN xs 8).toNat = 0 := by unfold exN; rw [if_neg (by omega)]; rfl
  have WF := Lib.hid hwf
  have HN := Lib.hid hN
  have HL := Lib.hid hl
  have kf := bits32
  have kg := bits64
  have G32 := Lib.hid (fun v w (h : Reads .u8 w v xs) => by have := get32 v xs w h hwf (by omega); rwa [e1, n1] at this)
  have G64 := Lib.hid (fun v w (h : Reads .u8 w v xs) => by have := get64 v xs w h hwf (by omega); rwa [e2, n2] at this)
  obtain ⟨R, hR⟩ : ∃ R, getN xs 0 8 = R := ⟨_, rfl⟩
  have RG := Lib.hid (fun w (h : Reads .u8 w (.slice p xs.length c) xs) => by
    have := refGet (.slice p xs.length c) xs 0 8 w h hwf (by omega) (by omega) (by omega)
    have pE : partE xs.length 0 8 = 0 := by unfold partE; rw [if_neg (by omega), if_neg (by omega)]
    rw [hR, show getE xs.length 0 8 = 0 from by unfold getE; rw [if_pos (by omega), pE]] at this
    exact this)
  clear hR
  have t0 : ¬ (xs.length : Int) < 4 := by omega
  have t1 : (4 : Int) < (xs.length : Int) := by omega
  have t2 : ¬ (xs.length : Int) < 8 := by omega
  have t3 : (8 : Int) < (xs.length : Int) := by omega
  have hown1 : Row .u8 5 w.heap.size (w.alloc (.cells #[] 5)) (.slice (some ⟨w.heap.size, 0, none⟩) 0 0) [] := World.ownsRow_made _ _ _ (Nat.le_refl _) (by simp [maxLen]) rfl
  have hba1 := (Below.refl w.heap.size w).alloc (Nat.le_refl _) (.cells #[] 5)
  have hr1 := hr0.below hba1
  clear hwf hN hl e1 e2 n1 n2
  go_enter Try.func7, Try.ntmps7
  go_wp2_with (at_builtin; refine wpl_append rfl _ _ 33 rfl .u8 w.heap.size 5 1 i0 (.int .u8 0) Try.underlying33 hi hz0 hz1 hz2 rfl (.slice (some ⟨w.heap.size, 0, none⟩) 0 0) _ [] xs rfl rfl hown1 hr1 K1 K2 (by simp) ?_; intro v1 w1 ho1 hg1)
  have hb1 : Below w.heap.size w w1 := hba1.grown hg1 (by simp) (fun q h => by cases h; exact Nat.le_refl _)
  replace ho1 : Reads .u8 w1 v1 xs := ho1.reads
  clear hown1 hg1 hr1 hba1
  refine (G32.out _ _ ho1).mono ?_
  rintro e w2 ⟨rfl, b2⟩
  have hb2 := Frame.ext hb1 b2
  clear b2 hb1 ho1
  have hown3 : Row .u8 5 w2.heap.size (w2.alloc (.cells #[] 5)) (.slice (some ⟨w2.heap.size, 0, none⟩) 0 0) [] := World.ownsRow_made _ _ _ (Nat.le_refl _) (by simp [maxLen]) rfl
  have hba3 := (Below.refl w2.heap.size w2).alloc (Nat.le_refl _) (.cells #[] 5)
  have hr3 := (hr0.below hb2).below hba3
  go_wp2_with (at_builtin; refine wpl_append rfl _ _ 33 rfl .u8 w2.heap.size 5 1 i0 (.int .u8 0) Try.underlying33 hi hz0 hz1 hz2 rfl (.slice (some ⟨w2.heap.size, 0, none⟩) 0 0) _ [] xs rfl rfl hown3 hr3 K1 K2 (by simp) ?_; intro v3 w3 ho3 hg3)
  have hb3 : Below w2.heap.size w2 w3 := hba3.grown hg3 (by simp) (fun q h => by cases h; exact Nat.le_refl _)
  replace ho3 : Reads .u8 w3 v3 xs := ho3.reads
  have hb3' := Frame.ext hb2 hb3
  clear hown3 hg3 hr3 hba3 hb2 hb3
  refine (G64.out _ _ ho3).mono ?_
  rintro e w4 ⟨rfl, b4⟩
  have hb4 := Frame.ext hb3' b4
  clear b4 hb3' ho3
  go_wp2_with fail
  refine (answers _).mono ?_
  rintro e w5 ⟨rfl, b5⟩
  have hb5 := Frame.ext hb4 b5
  have hr5 := hr0.below hb5
  clear b5 hb4 hr0 K1 K2
  go_wp2_with fail
  go_quiet (fail)
  go_wp2_with fail
  have hr6 : Reads .u8 (w5.drewN nq) (.slice p xs.length c) xs := hr5
  have hb6 : Below w.heap.size w (w5.drewN nq) := ⟨hb5.os, hb5.tape, hb5.output, hb5.size, hb5.block⟩
  clear hr5 hb5
  generalize w5.drewN nq = w6 at hr6 hb6
  refine (RG.out _ hr6).mono ?_
  rintro e w7 ⟨rfl, b7⟩
  have hb7 := Frame.ext hb6 b7
  have hr7 := hr6.below b7
  clear b7 hb6 hr6
  go_wp2_with fail
  go_quiet (fail)
  go_wp2
  go_ret
  exact ⟨rfl, ⟨hb7.os, hb7.tape, hb7.output, hb7.size, hb7.block⟩⟩

set_option maxRecDepth 100000 in
set_option maxHeartbeats 3200000 in
theorem getsBt (p : Option Addr) (c : Nat) (xs : List Int) (N : Nat) (w : World) (hr0 : Reads .u8 w (.slice p xs.length c) xs) (hwf : ∀ x ∈ xs, 0 ≤ x ∧ x ≤ 255) (hb : xs.length ≤ 140737488355200) (hN : num xs = (N : Int)) (hl : xs.length = 4) (hq : nanB32 N = true) :
    Calls Try.prog 7 #[.slice p xs.length c] w fun e w' => e = .returned (.bool true) ∧ Below w.heap.size w w' := by
  obtain ⟨i0, hi, hz0, hz1, hz2⟩ := info_parts info5
  have K1 : ([] : List Int).length + xs.length ≤ maxLen := by simp [maxLen]; omega
  have K2 : (([] : List Int).length + xs.length) * 1 ≤ 140737488355328 := by simp; omega
  have e1 : exE xs.length 4 = 0 := by unfold exE; rw [if_neg (by omega), if_pos (by omega)]
  have e2 : exE xs.length 8 = 3 := by unfold exE; rw [if_pos (by omega)]
  have n1 : (exN xs 4).toNat = N := by unfold exN; rw [if_pos (by omega), hN]; rfl
  have n2 : (exN xs 8).toNat = 0 := by unfold exN; rw [if_neg (by omega)]; rfl
  have WF := Lib.hid hwf
  have HN := Lib.hid hN
  have HL := Lib.hid hl
  have kf := bits32
  have kg := bits64
  have G32 := Lib.hid (fun v w (h : Reads .u8 w v xs) => by have := get32 v xs w h hwf (by omega); rwa [e1, n1] at this)
  have G64 := Lib.hid (fun v w (h : Reads .u8 w v xs) => by have := get64 v xs w h hwf (by omega); rwa [e2, n2] at this)
  have RG := Lib.hid (fun w (h : Reads .u8 w (.slice p xs.length c) xs) => by
    have := refGet (.slice p xs.length c) xs 0 8 w h hwf (by omega) (by omega) (by omega)
    have pE : partE xs.length 0 8 = 3 := by unfold partE; rw [if_neg (by omega), if_pos (by omega)]
    rw [show getN xs 0 8 = 0 from by unfold getN partL; rw [if_pos (by omega), pE, if_neg (by decide)]; rfl, show getE xs.length 0 8 = 3 from by unfold getE; rw [if_pos (by omega), pE]] at this
    exact this)
  have t0 : ¬ (xs.length : Int) < 4 := by omega
  have t1 : ¬ (4 : Int) < (xs.length : Int) := by omega
  have t2 : (xs.length : Int) < 8 := by omega
  have t3 : ¬ (8 : Int) < (xs.length : Int) := by omega
  have hown1 : Row .u8 5 w.heap.size (w.alloc (.cells #[] 5)) (.slice (some ⟨w.heap.size, 0, none⟩) 0 0) [] := World.ownsRow_made _ _ _ (Nat.le_refl _) (by simp [maxLen]) rfl
  have hba1 := (Below.refl w.heap.size w).alloc (Nat.le_refl _) (.cells #[] 5)
  have hr1 := hr0.below hba1
  clear hwf hN hl e1 e2 n1 n2
  go_enter Try.func7, Try.ntmps7
  go_wp2_with (at_builtin; refine wpl_append rfl _ _ 33 rfl .u8 w.heap.size 5 1 i0 (.int .u8 0) Try.underlying33 hi hz0 hz1 hz2 rfl (.slice (some ⟨w.heap.size, 0, none⟩) 0 0) _ [] xs rfl rfl hown1 hr1 K1 K2 (by simp) ?_; intro v1 w1 ho1 hg1)
  have hb1 : Below w.heap.size w w1 := hba1.grown hg1 (by simp) (fun q h => by cases h; exact Nat.le_refl _)
  replace ho1 : Reads .u8 w1 v1 xs := ho1.reads
  clear hown1 hg1 hr1 hba1
  refine (G32.out _ _ ho1).mono ?_
  rintro e w2 ⟨rfl, b2⟩
  have hb2 := Frame.ext hb1 b2
  clear b2 hb1 ho1
  have hown3 : Row .u8 5 w2.heap.size (w2.alloc (.cells #[] 5)) (.slice (some ⟨w2.heap.size, 0, none⟩) 0 0) [] := World.ownsRow_made _ _ _ (Nat.le_refl _) (by simp [maxLen]) rfl
  have hba3 := (Below.refl w2.heap.size w2).alloc (Nat.le_refl _) (.cells #[] 5)
  have hr3 := (hr0.below hb2).below hba3
  go_wp2_with (at_builtin; refine wpl_append rfl _ _ 33 rfl .u8 w2.heap.size 5 1 i0 (.int .u8 0) Try.underlying33 hi hz0 hz1 hz2 rfl (.slice (some ⟨w2.heap.size, 0, none⟩) 0 0) _ [] xs rfl rfl hown3 hr3 K1 K2 (by simp) ?_; intro v3 w3 ho3 hg3)
  have hb3 : Below w2.heap.size w2 w3 := hba3.grown hg3 (by simp) (fun q h => by cases h; exact Nat.le_refl _)
  replace ho3 : Reads .u8 w3 v3 xs := ho3.reads
  have hb3' := Frame.ext hb2 hb3
  clear hown3 hg3 hr3 hba3 hb2 hb3
  refine (G64.out _ _ ho3).mono ?_
  rintro e w4 ⟨rfl, b4⟩
  have hb4 := Frame.ext hb3' b4
  clear b4 hb3' ho3
  go_wp2_with fail
  refine (answers _).mono ?_
  rintro e w5 ⟨rfl, b5⟩
  have hb5 := Frame.ext hb4 b5
  have hr5 := hr0.below hb5
  clear b5 hb4 hr0 K1 K2
  go_wp2_with fail
  have hN4 : N < 4294967296 := by
    have h1 := num_bound xs WF.out
    rw [HN.out, HL.out] at h1
    have := h1.2
    rw [show ((256 ^ 4 : Nat) : Int) = 4294967296 from by decide] at this
    omega
  have hNi : (N : Int) ≤ 4294967295 := by omega
  obtain ⟨m, hm⟩ : ∃ m, N % 2147483648 = m := ⟨_, rfl⟩
  have hand := and31 N hN4
  rw [hm] at hand
  have hle : decide ((m : Int) ≤ 2139095040) = false := by
    have hq' := hq
    unfold nanB32 at hq'
    rw [hm] at hq'
    have := of_decide_eq_true hq'; exact decide_eq_false (by omega)
  have HB := Lib.hid (show bytes32 N = putted [] (num xs) 4 ∨ nanB32 N = true from by
    cases h : nanB32 N with
    | true => exact .inr rfl
    | false => left; unfold bytes32; rw [h, HN.out]; rfl)
  have RN := Lib.hid (fun w (h : Reads .u8 w (.slice p xs.length c) xs) => by have := refNum4 (.slice p xs.length c) xs w h WF.out HL.out; rwa [HN.out] at this)
  have HM := Lib.hid hm
  have HQ := Lib.hid hq
  have H4 := Lib.hid hN4
  clear hm hq hN4
  refine Mono.wp_region_mono [some 49, some 50, some 51, some 52, some 53, some 54, some 55, some 56, some 57, some 58, some 59, some 60, some 61, some 62, some 63, some 64, some 65] [Mono.isV (.int .i64 0), Mono.isV (.bool true), Mono.isV (.bool true), Mono.isV (.slice p xs.length c), Mono.isV (.int .i64 N), Mono.isV (.int .u32 N), Mono.isV (.int .u32 m), Mono.isV (.bool false), Mono.isV (.bool false), Mono.isV (.bool false), Mono.anyV, Mono.anyV, Mono.anyV, Mono.anyV, Mono.anyV, Mono.anyV, Mono.isV (.bool false)] (by kernel_rfl) (by kernel_rfl) ?_ ?_
  · simp only [Mono.OpGoals, and_true]
    refine ⟨?_, ?_, ?_, ?_, ?_, ?_, ?_, ?_, ?_, ?_, ?_, ?_, ?_, ?_, ?_, ?_, ?_⟩
    all_goals
      intro a u hbu hsu hdu
      simp at hdu hsu
      have hru := hr5.below hbu
      have hcv := string33 hru
      try have hcv2 := string33 hdu.1
      simp [*]
      go_wp2_with (first
        | (go_at_call 22; refine (RN.out _ hru).mono ?_; rintro e w9 ⟨rfl, hb9⟩)
        | (go_at_call 14; refine (put32 N _ H4.out).mono ?_; rintro e w9 ⟨v9, rfl, ho9, hb9⟩))
    all_goals first
      | exact Below.refl _ _
      | exact trivial
      | exact ⟨trivial, Below.refl _ _⟩
      | exact ⟨rfl, hb9⟩
      | exact ⟨_, rfl, by rw [← back4 xs WF.out HL.out, ← HB.out.resolve_right (by rw [HQ.out]; decide)]; exact ho9.reads⟩
      | trace_state
  · intro u hu
    have hr6 := hr5.below hu
    have hb6 := Frame.ext hb5 hu
    clear hr5 hb5 hu
    simp
    intros
    go_wp2_with fail
    refine (RG.out _ hr6).mono ?_
    rintro e w7 ⟨rfl, b7⟩
    have hb7 := Frame.ext hb6 b7
    have hr7 := hr6.below b7
    clear b7 hb6 hr6
    go_wp2_with fail
    go_quiet (fail)
    go_wp2
    go_ret
    exact ⟨rfl, ⟨hb7.os, hb7.tape, hb7.output, hb7.size, hb7.block⟩⟩

set_option maxRecDepth 100000 in
set_option maxHeartbeats 3200000 in
theorem getsDt (p : Option Addr) (c : Nat) (xs : List Int) (N : Nat) (w : World) (hr0 : Reads .u8 w (.slice p xs.length c) xs) (hwf : ∀ x ∈ xs, 0 ≤ x ∧ x ≤ 255) (hb : xs.length ≤ 140737488355200) (hN : num xs = (N : Int)) (hl : xs.length = 8) (hq : nanB N = true) :
    Calls Try.prog 7 #[.slice p xs.length c] w fun e w' => e = .returned (.bool true) ∧ Below w.heap.size w w' := by
  obtain ⟨i0, hi, hz0, hz1, hz2⟩ := info_parts info5
  have K1 : ([] : List Int).length + xs.length ≤ maxLen := by simp [maxLen]; omega
  have K2 : (([] : List Int).length + xs.length) * 1 ≤ 140737488355328 := by simp; omega
  have e1 : exE xs.length 4 = 2 := by unfold exE; rw [if_neg (by omega), if_neg (by omega)]
  have e2 : exE xs.length 8 = 0 := by unfold exE; rw [if_neg (by omega), if_pos (by omega)]
  have n1 : (exN xs 4).toNat = 0 := by unfold exN; rw [if_neg (by omega)]; rfl
  have n2 : (exN xs 8).toNat = N := by unfold exN; rw [if_pos (by omega), hN]; rfl
  have WF := Lib.hid hwf
  have HN := Lib.hid hN
  have HL := Lib.hid hl
  have kf := bits32
  have kg := bits64
  have G32 := Lib.hid (fun v w (h : Reads .u8 w v xs) => by have := get32 v xs w h hwf (by omega); rwa [e1, n1] at this)
  have G64 := Lib.hid (fun v w (h : Reads .u8 w v xs) => by have := get64 v xs w h hwf (by omega); rwa [e2, n2] at this)
  obtain ⟨R, hR⟩ : ∃ R, getN xs 0 8 = R := ⟨_, rfl⟩
  have RG := Lib.hid (fun w (h : Reads .u8 w (.slice p xs.length c) xs) => by
    have := refGet (.slice p xs.length c) xs 0 8 w h hwf (by omega) (by omega) (by omega)
    have pE : partE xs.length 0 8 = 0 := by unfold partE; rw [if_neg (by omega), if_neg (by omega)]
    rw [hR, show getE xs.length 0 8 = 0 from by unfold getE; rw [if_pos (by omega), pE]] at this
    exact this)
  have hRN : R = (N : Int) := by
    rw [← hR, ← hN]
    have pE : partE xs.length 0 8 = 0 := by unfold partE; rw [if_neg (by omega), if_neg (by omega)]
    unfold getN partL
    rw [if_pos (by omega), pE, if_pos rfl]
    show num ((xs.drop 0).take 8) = _
    rw [List.drop_zero, show 8 = xs.length from hl.symm, List.take_length]
  subst hRN
  clear hR
  have t0 : ¬ (xs.length : Int) < 4 := by omega
  have t1 : (4 : Int) < (xs.length : Int) := by omega
  have t2 : ¬ (xs.length : Int) < 8 := by omega
  have t3 : ¬ (8 : Int) < (xs.length : Int) := by omega
  have hown1 : Row .u8 5 w.heap.size (w.alloc (.cells #[] 5)) (.slice (some ⟨w.heap.size, 0, none⟩) 0 0) [] := World.ownsRow_made _ _ _ (Nat.le_refl _) (by simp [maxLen]) rfl
  have hba1 := (Below.refl w.heap.size w).alloc (Nat.le_refl _) (.cells #[] 5)
  have hr1 := hr0.below hba1
  clear hwf hN hl e1 e2 n1 n2
  go_enter Try.func7, Try.ntmps7
  go_wp2_with (at_builtin; refine wpl_append rfl _ _ 33 rfl .u8 w.heap.size 5 1 i0 (.int .u8 0) Try.underlying33 hi hz0 hz1 hz2 rfl (.slice (some ⟨w.heap.size, 0, none⟩) 0 0) _ [] xs rfl rfl hown1 hr1 K1 K2 (by simp) ?_; intro v1 w1 ho1 hg1)
  have hb1 : Below w.heap.size w w1 := hba1.grown hg1 (by simp) (fun q h => by cases h; exact Nat.le_refl _)
  replace ho1 : Reads .u8 w1 v1 xs := ho1.reads
  clear hown1 hg1 hr1 hba1
  refine (G32.out _ _ ho1).mono ?_
  rintro e w2 ⟨rfl, b2⟩
  have hb2 := Frame.ext hb1 b2
  clear b2 hb1 ho1
  have hown3 : Row .u8 5 w2.heap.size (w2.alloc (.cells #[] 5)) (.slice (some ⟨w2.heap.size, 0, none⟩) 0 0) [] := World.ownsRow_made _ _ _ (Nat.le_refl _) (by simp [maxLen]) rfl
  have hba3 := (Below.refl w2.heap.size w2).alloc (Nat.le_refl _) (.cells #[] 5)
  have hr3 := (hr0.below hb2).below hba3
  go_wp2_with (at_builtin; refine wpl_append rfl _ _ 33 rfl .u8 w2.heap.size 5 1 i0 (.int .u8 0) Try.underlying33 hi hz0 hz1 hz2 rfl (.slice (some ⟨w2.heap.size, 0, none⟩) 0 0) _ [] xs rfl rfl hown3 hr3 K1 K2 (by simp) ?_; intro v3 w3 ho3 hg3)
  have hb3 : Below w2.heap.size w2 w3 := hba3.grown hg3 (by simp) (fun q h => by cases h; exact Nat.le_refl _)
  replace ho3 : Reads .u8 w3 v3 xs := ho3.reads
  have hb3' := Frame.ext hb2 hb3
  clear hown3 hg3 hr3 hba3 hb2 hb3
  refine (G64.out _ _ ho3).mono ?_
  rintro e w4 ⟨rfl, b4⟩
  have hb4 := Frame.ext hb3' b4
  clear b4 hb3' ho3
  go_wp2_with fail
  refine (answers _).mono ?_
  rintro e w5 ⟨rfl, b5⟩
  have hb5 := Frame.ext hb4 b5
  have hr5 := hr0.below hb5
  clear b5 hb4 hr0 K1 K2
  go_wp2_with fail
  go_quiet (fail)
  go_wp2_with fail
  have hr6 : Reads .u8 (w5.drewN nq) (.slice p xs.length c) xs := hr5
  have hb6 : Below w.heap.size w (w5.drewN nq) := ⟨hb5.os, hb5.tape, hb5.output, hb5.size, hb5.block⟩
  clear hr5 hb5
  generalize w5.drewN nq = w6 at hr6 hb6
  refine (RG.out _ hr6).mono ?_
  rintro e w7 ⟨rfl, b7⟩
  have hb7 := Frame.ext hb6 b7
  have hr7 := hr6.below b7
  clear b7 hb6 hr6
  go_wp2_with fail
  have hN8 : N < 18446744073709551616 := by
    have h1 := num_bound xs WF.out
    rw [HN.out, HL.out] at h1
    have := h1.2
    rw [show ((256 ^ 8 : Nat) : Int) = 18446744073709551616 from by decide] at this
    omega
  have H8 := Lib.hid hN8
  clear hN8
  have HB := Lib.hid (show bytes64 N = putted [] (num xs) 8 ∨ nanB N = true from by
    cases h : nanB N with
    | true => exact .inr rfl
    | false => left; unfold bytes64; rw [h, HN.out]; rfl)
  have HQ := Lib.hid hq
  clear hq
  refine Mono.wp_region_mono [some 71, some 72, some 73, some 74, some 75, some 76, some 77, some 78, some 79, some 80, some 81, some 82, some 83, some 84, some 85] [Mono.isV (.int .i64 0), Mono.isV (.bool true), Mono.isV (.bool true), Mono.isV (.int .u64 N), Mono.isV (.bool true), Mono.isV (.bool false), Mono.isV (.bool false), Mono.isV (.bool false), Mono.anyV, Mono.anyV, Mono.anyV, Mono.anyV, Mono.anyV, Mono.anyV, Mono.isV (.bool false)] (by kernel_rfl) (by kernel_rfl) ?_ ?_
  · simp only [Mono.OpGoals, and_true]
    refine ⟨?_, ?_, ?_, ?_, ?_, ?_, ?_, ?_, ?_, ?_, ?_, ?_, ?_, ?_, ?_⟩
    all_goals
      intro a u hbu hsu hdu
      simp at hdu hsu
      have hru := hr7.below hbu
      have hcv := string33 hru
      try have hcv2 := string33 hdu.1
      simp [*]
      go_wp2_with (first
        | (go_at_call 17; refine (nan N _ _ H8.out HQ.out).mono ?_; rintro e w9 ⟨rfl, rfl⟩)
        | (go_at_call 15; refine (put64 N _ H8.out).mono ?_; rintro e w9 ⟨v9, rfl, ho9, hb9⟩))
    all_goals first
      | exact Below.refl _ _
      | exact trivial
      | exact ⟨trivial, Below.refl _ _⟩
      | exact ⟨rfl, Below.refl _ _⟩
      | exact ⟨_, rfl, by rw [← back8 xs WF.out HL.out, ← HB.out.resolve_right (by rw [HQ.out]; decide)]; exact ho9.reads⟩
      | trace_state
  · intro u hu
    simp
    intros
    go_wp2
    go_ret
    exact ⟨rfl, Frame.ext hb7 hu⟩

set_option maxRecDepth 100000 in
set_option maxHeartbeats 3200000 in
theorem getsBf (p : Option Addr) (c : Nat) (xs : List Int) (N : Nat) (w : World) (hr0 : Reads .u8 w (.slice p xs.length c) xs) (hwf : ∀ x ∈ xs, 0 ≤ x ∧ x ≤ 255) (hb : xs.length ≤ 140737488355200) (hN : num xs = (N : Int)) (hl : xs.length = 4) (hq : nanB32 N = false) :
    Calls Try.prog 7 #[.slice p xs.length c] w fun e w' => e = .returned (.bool true) ∧ Below w.heap.size w w' := by
  obtain ⟨i0, hi, hz0, hz1, hz2⟩ := info_parts info5
  have K1 : ([] : List Int).length + xs.length ≤ maxLen := by simp [maxLen]; omega
  have K2 : (([] : List Int).length + xs.length) * 1 ≤ 140737488355328 := by simp; omega
  have e1 : exE xs.length 4 = 0 := by unfold exE; rw [if_neg (by omega), if_pos (by omega)]
  have e2 : exE xs.length 8 = 3 := by unfold exE; rw [if_pos (by omega)]
  have n1 : (exN xs 4).toNat = N := by unfold exN; rw [if_pos (by omega), hN]; rfl
  have n2 : (exN xs 8).toNat = 0 := by unfold exN; rw [if_neg (by omega)]; rfl
  have WF := Lib.hid hwf
  have HN := Lib.hid hN
  have HL := Lib.hid hl
  have kf := bits32
  have kg := bits64
  have G32 := Lib.hid (fun v w (h : Reads .u8 w v xs) => by have := get32 v xs w h hwf (by omega); rwa [e1, n1] at this)
  have G64 := Lib.hid (fun v w (h : Reads .u8 w v xs) => by have := get64 v xs w h hwf (by omega); rwa [e2, n2] at this)
  have RG := Lib.hid (fun w (h : Reads .u8 w (.slice p xs.length c) xs) => by
    have := refGet (.slice p xs.length c) xs 0 8 w h hwf (by omega) (by omega) (by omega)
    have pE : partE xs.length 0 8 = 3 := by unfold partE; rw [if_neg (by omega), if_pos (by omega)]
    rw [show getN xs 0 8 = 0 from by unfold getN partL; rw [if_pos (by omega), pE, if_neg (by decide)]; rfl, show getE xs.length 0 8 = 3 from by unfold getE; rw [if_pos (by omega), pE]] at this
    exact this)
  have t0 : ¬ (xs.length : Int) < 4 := by omega
  have t1 : ¬ (4 : Int) < (xs.length : Int) := by omega
  have t2 : (xs.length : Int) < 8 := by omega
  have t3 : ¬ (8 : Int) < (xs.length : Int) := by omega
  have hown1 : Row .u8 5 w.heap.size (w.alloc (.cells #[] 5)) (.slice (some ⟨w.heap.size, 0, none⟩) 0 0) [] := World.ownsRow_made _ _ _ (Nat.le_refl _) (by simp [maxLen]) rfl
  have hba1 := (Below.refl w.heap.size w).alloc (Nat.le_refl _) (.cells #[] 5)
  have hr1 := hr0.below hba1
  clear hwf hN hl e1 e2 n1 n2
  go_enter Try.func7, Try.ntmps7
  go_wp2_with (at_builtin; refine wpl_append rfl _ _ 33 rfl .u8 w.heap.size 5 1 i0 (.int .u8 0) Try.underlying33 hi hz0 hz1 hz2 rfl (.slice (some ⟨w.heap.size, 0, none⟩) 0 0) _ [] xs rfl rfl hown1 hr1 K1 K2 (by simp) ?_; intro v1 w1 ho1 hg1)
  have hb1 : Below w.heap.size w w1 := hba1.grown hg1 (by simp) (fun q h => by cases h; exact Nat.le_refl _)
  replace ho1 : Reads .u8 w1 v1 xs := ho1.reads
  clear hown1 hg1 hr1 hba1
  refine (G32.out _ _ ho1).mono ?_
  rintro e w2 ⟨rfl, b2⟩
  have hb2 := Frame.ext hb1 b2
  clear b2 hb1 ho1
  have hown3 : Row .u8 5 w2.heap.size (w2.alloc (.cells #[] 5)) (.slice (some ⟨w2.heap.size, 0, none⟩) 0 0) [] := World.ownsRow_made _ _ _ (Nat.le_refl _) (by simp [maxLen]) rfl
  have hba3 := (Below.refl w2.heap.size w2).alloc (Nat.le_refl _) (.cells #[] 5)
  have hr3 := (hr0.below hb2).below hba3
  go_wp2_with (at_builtin; refine wpl_append rfl _ _ 33 rfl .u8 w2.heap.size 5 1 i0 (.int .u8 0) Try.underlying33 hi hz0 hz1 hz2 rfl (.slice (some ⟨w2.heap.size, 0, none⟩) 0 0) _ [] xs rfl rfl hown3 hr3 K1 K2 (by simp) ?_; intro v3 w3 ho3 hg3)
  have hb3 : Below w2.heap.size w2 w3 := hba3.grown hg3 (by simp) (fun q h => by cases h; exact Nat.le_refl _)
  replace ho3 : Reads .u8 w3 v3 xs := ho3.reads
  have hb3' := Frame.ext hb2 hb3
  clear hown3 hg3 hr3 hba3 hb2 hb3
  refine (G64.out _ _ ho3).mono ?_
  rintro e w4 ⟨rfl, b4⟩
  have hb4 := Frame.ext hb3' b4
  clear b4 hb3' ho3
  go_wp2_with fail
  refine (answers _).mono ?_
  rintro e w5 ⟨rfl, b5⟩
  have hb5 := Frame.ext hb4 b5
  have hr5 := hr0.below hb5
  clear b5 hb4 hr0 K1 K2
  go_wp2_with fail
  have hN4 : N < 4294967296 := by
    have h1 := num_bound xs WF.out
    rw [HN.out, HL.out] at h1
    have := h1.2
    rw [show ((256 ^ 4 : Nat) : Int) = 4294967296 from by decide] at this
    omega
  have hNi : (N : Int) ≤ 4294967295 := by omega
  obtain ⟨m, hm⟩ : ∃ m, N % 2147483648 = m := ⟨_, rfl⟩
  have hand := and31 N hN4
  rw [hm] at hand
  have hle : decide ((m : Int) ≤ 2139095040) = true := by
    have hq' := hq
    unfold nanB32 at hq'
    rw [hm] at hq'
    have := of_decide_eq_false hq'; exact decide_eq_true (by omega)
  have HB := Lib.hid (show bytes32 N = putted [] (num xs) 4 ∨ nanB32 N = true from by
    cases h : nanB32 N with
    | true => exact .inr rfl
    | false => left; unfold bytes32; rw [h, HN.out]; rfl)
  have RN := Lib.hid (fun w (h : Reads .u8 w (.slice p xs.length c) xs) => by have := refNum4 (.slice p xs.length c) xs w h WF.out HL.out; rwa [HN.out] at this)
  have HM := Lib.hid hm
  have HQ := Lib.hid hq
  have H4 := Lib.hid hN4
  clear hm hq hN4
  refine Mono.wp_region_mono [some 49, some 50, some 51, some 52, some 53, some 54, some 55, some 56, some 57, some 58, some 59, some 60, some 61, some 62, some 63, some 64, some 65] [Mono.isV (.int .i64 0), Mono.isV (.bool true), Mono.isV (.bool true), Mono.isV (.slice p xs.length c), Mono.isV (.int .i64 N), Mono.isV (.int .u32 N), Mono.isV (.int .u32 m), Mono.isV (.bool true), Mono.isV (.bool true), Mono.isV (.bool true), Mono.isV (.float .f32 N), readsP .u8 xs, Mono.isV (.string (strOfNums xs)), Mono.isV (.slice p xs.length c), Mono.isV (.string (strOfNums xs)), Mono.isV (.bool false), Mono.isV (.bool false)] (by kernel_rfl) (by kernel_rfl) ?_ ?_
  · simp only [Mono.OpGoals, and_true]
    refine ⟨?_, ?_, ?_, ?_, ?_, ?_, ?_, ?_, ?_, ?_, ?_, ?_, ?_, ?_, ?_, ?_, ?_⟩
    all_goals
      intro a u hbu hsu hdu
      simp at hdu hsu
      have hru := hr5.below hbu
      have hcv := string33 hru
      try have hcv2 := string33 hdu.1
      simp [*]
      go_wp2_with (first
        | (go_at_call 22; refine (RN.out _ hru).mono ?_; rintro e w9 ⟨rfl, hb9⟩)
        | (go_at_call 14; refine (put32 N _ H4.out).mono ?_; rintro e w9 ⟨v9, rfl, ho9, hb9⟩))
    all_goals first
      | exact Below.refl _ _
      | exact trivial
      | exact ⟨trivial, Below.refl _ _⟩
      | exact ⟨rfl, hb9⟩
      | exact ⟨_, rfl, by rw [← back4 xs WF.out HL.out, ← HB.out.resolve_right (by rw [HQ.out]; decide)]; exact ho9.reads⟩
      | trace_state
  · intro u hu
    have hr6 := hr5.below hu
    have hb6 := Frame.ext hb5 hu
    clear hr5 hb5 hu
    simp
    intros
    go_wp2_with fail
    refine (RG.out _ hr6).mono ?_
    rintro e w7 ⟨rfl, b7⟩
    have hb7 := Frame.ext hb6 b7
    have hr7 := hr6.below b7
    clear b7 hb6 hr6
    go_wp2_with fail
    go_quiet (fail)
    go_wp2
    go_ret
    exact ⟨rfl, ⟨hb7.os, hb7.tape, hb7.output, hb7.size, hb7.block⟩⟩

set_option maxRecDepth 100000 in
set_option maxHeartbeats 3200000 in
theorem getsDf (p : Option Addr) (c : Nat) (xs : List Int) (N : Nat) (w : World) (hr0 : Reads .u8 w (.slice p xs.length c) xs) (hwf : ∀ x ∈ xs, 0 ≤ x ∧ x ≤ 255) (hb : xs.length ≤ 140737488355200) (hN : num xs = (N : Int)) (hl : xs.length = 8) (hq : nanB N = false) :
    Calls Try.prog 7 #[.slice p xs.length c] w fun e w' => e = .returned (.bool true) ∧ Below w.heap.size w w' := by
  obtain ⟨i0, hi, hz0, hz1, hz2⟩ := info_parts info5
  have K1 : ([] : List Int).length + xs.length ≤ maxLen := by simp [maxLen]; omega
  have K2 : (([] : List Int).length + xs.length) * 1 ≤ 140737488355328 := by simp; omega
  have e1 : exE xs.length 4 = 2 := by unfold exE; rw [if_neg (by omega), if_neg (by omega)]
  have e2 : exE xs.length 8 = 0 := by unfold exE; rw [if_neg (by omega), if_pos (by omega)]
  have n1 : (exN xs 4).toNat = 0 := by unfold exN; rw [if_neg (by omega)]; rfl
  have n2 : (exN xs 8).toNat = N := by unfold exN; rw [if_pos (by omega), hN]; rfl
  have WF := Lib.hid hwf
  have HN := Lib.hid hN
  have HL := Lib.hid hl
  have kf := bits32
  have kg := bits64
  have G32 := Lib.hid (fun v w (h : Reads .u8 w v xs) => by have := get32 v xs w h hwf (by omega); rwa [e1, n1] at this)
  have G64 := Lib.hid (fun v w (h : Reads .u8 w v xs) => by have := get64 v xs w h hwf (by omega); rwa [e2, n2] at this)
  obtain ⟨R, hR⟩ : ∃ R, getN xs 0 8 = R := ⟨_, rfl⟩
  have RG := Lib.hid (fun w (h : Reads .u8 w (.slice p xs.length c) xs) => by
    have := refGet (.slice p xs.length c) xs 0 8 w h hwf (by omega) (by omega) (by omega)
    have pE : partE xs.length 0 8 = 0 := by unfold partE; rw [if_neg (by omega), if_neg (by omega)]
    rw [hR, show getE xs.length 0 8 = 0 from by unfold getE; rw [if_pos (by omega), pE]] at this
    exact this)
  have hRN : R = (N : Int) := by
    rw [← hR, ← hN]
    have pE : partE xs.length 0 8 = 0 := by unfold partE; rw [if_neg (by omega), if_neg (by omega)]
    unfold getN partL
    rw [if_pos (by omega), pE, if_pos rfl]
    show num ((xs.drop 0).take 8) = _
    rw [List.drop_zero, show 8 = xs.length from hl.symm, List.take_length]
  subst hRN
  clear hR
  have t0 : ¬ (xs.length : Int) < 4 := by omega
  have t1 : (4 : Int) < (xs.length : Int) := by omega
  have t2 : ¬ (xs.length : Int) < 8 := by omega
  have t3 : ¬ (8 : Int) < (xs.length : Int) := by omega
  have hown1 : Row .u8 5 w.heap.size (w.alloc (.cells #[] 5)) (.slice (some ⟨w.heap.size, 0, none⟩) 0 0) [] := World.ownsRow_made _ _ _ (Nat.le_refl _) (by simp [maxLen]) rfl
  have hba1 := (Below.refl w.heap.size w).alloc (Nat.le_refl _) (.cells #[] 5)
  have hr1 := hr0.below hba1
  clear hwf hN hl e1 e2 n1 n2
  go_enter Try.func7, Try.ntmps7
  go_wp2_with (at_builtin; refine wpl_append rfl _ _ 33 rfl .u8 w.heap.size 5 1 i0 (.int .u8 0) Try.underlying33 hi hz0 hz1 hz2 rfl (.slice (some ⟨w.heap.size, 0, none⟩) 0 0) _ [] xs rfl rfl hown1 hr1 K1 K2 (by simp) ?_; intro v1 w1 ho1 hg1)
  have hb1 : Below w.heap.size w w1 := hba1.grown hg1 (by simp) (fun q h => by cases h; exact Nat.le_refl _)
  replace ho1 : Reads .u8 w1 v1 xs := ho1.reads
  clear hown1 hg1 hr1 hba1
  refine (G32.out _ _ ho1).mono ?_
  rintro e w2 ⟨rfl, b2⟩
  have hb2 := Frame.ext hb1 b2
  clear b2 hb1 ho1
  have hown3 : Row .u8 5 w2.heap.size (w2.alloc (.cells #[] 5)) (.slice (some ⟨w2.heap.size, 0, none⟩) 0 0) [] := World.ownsRow_made _ _ _ (Nat.le_refl _) (by simp [maxLen]) rfl
  have hba3 := (Below.refl w2.heap.size w2).alloc (Nat.le_refl _) (.cells #[] 5)
  have hr3 := (hr0.below hb2).below hba3
  go_wp2_with (at_builtin; refine wpl_append rfl _ _ 33 rfl .u8 w2.heap.size 5 1 i0 (.int .u8 0) Try.underlying33 hi hz0 hz1 hz2 rfl (.slice (some ⟨w2.heap.size, 0, none⟩) 0 0) _ [] xs rfl rfl hown3 hr3 K1 K2 (by simp) ?_; intro v3 w3 ho3 hg3)
  have hb3 : Below w2.heap.size w2 w3 := hba3.grown hg3 (by simp) (fun q h => by cases h; exact Nat.le_refl _)
  replace ho3 : Reads .u8 w3 v3 xs := ho3.reads
  have hb3' := Frame.ext hb2 hb3
  clear hown3 hg3 hr3 hba3 hb2 hb3
  refine (G64.out _ _ ho3).mono ?_
  rintro e w4 ⟨rfl, b4⟩
  have hb4 := Frame.ext hb3' b4
  clear b4 hb3' ho3
  go_wp2_with fail
  refine (answers _).mono ?_
  rintro e w5 ⟨rfl, b5⟩
  have hb5 := Frame.ext hb4 b5
  have hr5 := hr0.below hb5
  clear b5 hb4 hr0 K1 K2
  go_wp2_with fail
  go_quiet (fail)
  go_wp2_with fail
  have hr6 : Reads .u8 (w5.drewN nq) (.slice p xs.length c) xs := hr5
  have hb6 : Below w.heap.size w (w5.drewN nq) := ⟨hb5.os, hb5.tape, hb5.output, hb5.size, hb5.block⟩
  clear hr5 hb5
  generalize w5.drewN nq = w6 at hr6 hb6
  refine (RG.out _ hr6).mono ?_
  rintro e w7 ⟨rfl, b7⟩
  have hb7 := Frame.ext hb6 b7
  have hr7 := hr6.below b7
  clear b7 hb6 hr6
  go_wp2_with fail
  have hN8 : N < 18446744073709551616 := by
    have h1 := num_bound xs WF.out
    rw [HN.out, HL.out] at h1
    have := h1.2
    rw [show ((256 ^ 8 : Nat) : Int) = 18446744073709551616 from by decide] at this
    omega
  have H8 := Lib.hid hN8
  clear hN8
  have HB := Lib.hid (show bytes64 N = putted [] (num xs) 8 ∨ nanB N = true from by
    cases h : nanB N with
    | true => exact .inr rfl
    | false => left; unfold bytes64; rw [h, HN.out]; rfl)
  have HQ := Lib.hid hq
  clear hq
  refine Mono.wp_region_mono [some 71, some 72, some 73, some 74, some 75, some 76, some 77, some 78, some 79, some 80, some 81, some 82, some 83, some 84, some 85] [Mono.isV (.int .i64 0), Mono.isV (.bool true), Mono.isV (.bool true), Mono.isV (.int .u64 N), Mono.isV (.bool false), Mono.isV (.bool true), Mono.isV (.bool true), Mono.isV (.bool true), Mono.isV (.float .f64 N), readsP .u8 xs, Mono.isV (.string (strOfNums xs)), Mono.isV (.slice p xs.length c), Mono.isV (.string (strOfNums xs)), Mono.isV (.bool false), Mono.isV (.bool false)] (by kernel_rfl) (by kernel_rfl) ?_ ?_
  · simp only [Mono.OpGoals, and_true]
    refine ⟨?_, ?_, ?_, ?_, ?_, ?_, ?_, ?_, ?_, ?_, ?_, ?_, ?_, ?_, ?_⟩
    all_goals
      intro a u hbu hsu hdu
      simp at hdu hsu
      have hru := hr7.below hbu
      have hcv := string33 hru
      try have hcv2 := string33 hdu.1
      simp [*]
      go_wp2_with (first
        | (go_at_call 17; refine (nan N _ _ H8.out HQ.out).mono ?_; rintro e w9 ⟨rfl, rfl⟩)
        | (go_at_call 15; refine (put64 N _ H8.out).mono ?_; rintro e w9 ⟨v9, rfl, ho9, hb9⟩))
    all_goals first
      | exact Below.refl _ _
      | exact trivial
      | exact ⟨trivial, Below.refl _ _⟩
      | exact ⟨rfl, Below.refl _ _⟩
      | exact ⟨_, rfl, by rw [← back8 xs WF.out HL.out, ← HB.out.resolve_right (by rw [HQ.out]; decide)]; exact ho9.reads⟩
      | trace_state
  · intro u hu
    simp
    intros
    go_wp2
    go_ret
    exact ⟨rfl, Frame.ext hb7 hu⟩

theorem gets (p : Option Addr) (l c : Nat) (z : List Int) (w : World) (r : Frame.IsRow .u8 w p l c z) (hl : l ≤ 140737488351232) :
    Calls Try.prog 7 #[.slice p l c] w fun e w' => e = .returned (.bool true) ∧ Below w.heap.size w w' := by
  obtain ⟨hr, hlen, hwf⟩ := Mem.isRow_reads r
  obtain ⟨xs, hx⟩ : ∃ xs, z.take l = xs := ⟨_, rfl⟩
  rw [hx] at hr hlen hwf
  subst hlen
  have hwf : ∀ x ∈ xs, 0 ≤ x ∧ x ≤ 255 := fun x hx => bounds_u8 (hwf x hx)
  have hN := num_bound xs hwf
  obtain ⟨N, hN⟩ := Int.eq_ofNat_of_zero_le hN.1
  have hb : xs.length ≤ 140737488355200 := by omega
  by_cases h1 : xs.length < 4
  · exact getsA p c xs N w hr hwf hb hN h1
  by_cases h2 : xs.length = 4
  · cases hq : nanB32 N with
    | true => exact getsBt p c xs N w hr hwf hb hN h2 hq
    | false => exact getsBf p c xs N w hr hwf hb hN h2 hq
  by_cases h3 : xs.length < 8
  · exact getsC p c xs N w hr hwf hb hN ⟨by omega, h3⟩
  by_cases h4 : xs.length = 8
  · cases hq : nanB N with
    | true => exact getsDt p c xs N w hr hwf hb hN h4 hq
    | false => exact getsDf p c xs N w hr hwf hb hN h4 hq
  exact getsE p c xs N w hr hwf hb hN (by omega)
end Go.Proofs.Ytljinegonoomcaa.Real
