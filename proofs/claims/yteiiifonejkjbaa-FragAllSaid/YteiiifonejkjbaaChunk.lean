/-
  slices.Chunk's closure (30): the contract of the iterator: SeqStopsK at the wide fence: the pieces' starts 0, size, 2 * size, ..; it reads its two captured cells and nothing else.
-/
import Derived.Test.YteiiifonejkjbaaTpls
import Derived.RangeFuncNested
import Derived.RangeFuncBound
import Derived.RangeFuncCalls
import Derived.RangeFuncLeaves
import Derived.RangeFuncBox
import Derived.Shelf.Abstract
import Derived.Shelf.RegionOpen
import Derived.WalkKit
import Derived.OwnWalkIn
import Derived.TacticsInMore
import Derived.LoopNIn
import Derived.LoopIn
import Derived.Maps.AppendAt
import Derived.BigQuiet
import Derived.Deep.Cut
import Derived.Sort.AtCall
import Derived.Deep.CutBlock
import Derived.Deep.DeepCutAuto
import Derived.Lib.Hide
namespace Go.Proofs.Yteiiifonejkjbaa.Chunk
open Go.RowKit Go.Shelf
set_option linter.unusedVariables false
open Go.Proofs.Yteiiifonejkjbaa

attribute [local go_sem] Oper.semAt_some

/-- Which starts have come when k rounds are over. -/
def starts (sz k : Nat) : List Nat := (List.range k).map (· * sz)
theorem starts_succ (sz k : Nat) : starts sz (k + 1) = starts sz k ++ [k * sz] := by simp [starts, List.range_succ]
theorem starts_length (sz k : Nat) : (starts sz k).length = k := by simp [starts]

theorem grown_drewN (w : World) (n : Nat) (row : Option Nat) : w.grownBy (w.drewN n) row := ⟨rfl, rfl, rfl, Nat.le_refl _, fun _ _ _ => rfl⟩
/-- What a round keeps: the closure's two cells. -/
def Kp (gA gB : Nat) (W W' : World) : Prop := W'.cell? ⟨gA, 0, none⟩ = W.cell? ⟨gA, 0, none⟩ ∧ W'.cell? ⟨gB, 0, none⟩ = W.cell? ⟨gB, 0, none⟩
theorem Kp_t {gA gB : Nat} {A B C : World} (h : Kp gA gB A B) (k : Kp gA gB B C) : Kp gA gB A C := ⟨k.1.trans h.1, k.2.trans h.2⟩

/-- The piece that starts at x. -/
def piece (b off L sz x : Nat) : Array Value := #[.slice (some ⟨b, off + x, none⟩) (min sz (L - x)) (min sz (L - x))]

theorem wrap_le {X M : Nat} (h : X + M ≤ 4096) : wrap64 ((X : Int) + (M : Int)) = (X : Int) + (M : Int) := by
  unfold wrap64; omega
theorem wrap_le2 {X M sz : Nat} (h : X + M ≤ 4096) (hs : sz ≤ 256) : wrap64 ((X : Int) + (sz : Int)) = (X : Int) + (sz : Int) := by
  unfold wrap64; omega
theorem meas_lt {L X sz : Nat} (h : X < L) (hs : 0 < sz) : L - (intOf (.int .i64 ((X : Int) + (sz : Int)))).toNat < L - (intOf (.int .i64 (X : Int))).toNat := by
  simp only [intOf]; omega
theorem toNat_le (X M : Nat) : ((X : Int) + (M : Int)).toNat = X + M := by omega

set_option maxRecDepth 100000 in
set_option maxHeartbeats 4000000 in
theorem chunk1 (n : Nat) (hn : 1 ≤ n) (l gA gB b off L cap sz : Nat) (hsz : 0 < sz) (hsz' : sz ≤ 256) (hL : L ≤ 4096) (hcap : L ≤ cap) (hcm : cap ≤ maxLen) (J Jx : List Nat → World → Prop) (B : Nat) (hJ : AbidesFrom B J)
    (hY : ∀ pre x W, J pre W → pre.length < L → YieldAt Fence.wide (n - 1) Try.prog l (piece b off L sz x) W fun e W' =>
      (e = .returned (.bool true) ∧ J (pre ++ [x]) W' ∧ Kp gA gB W W') ∨ (e = .returned (.bool false) ∧ Jx (pre ++ [x]) W'))
    (W : World) (hA : W.cell? ⟨gA, 0, none⟩ = some (.slice (some ⟨b, off, none⟩) L cap)) (hB : W.cell? ⟨gB, 0, none⟩ = some (.int .i64 sz)) (h0 : J [] W) :
    Calls Try.prog 30 #[.func (.yield l) #[] #[], .pointer (some ⟨gA, 0, none⟩), .pointer (some ⟨gB, 0, none⟩)] W fun e W' => (∃ v, e = .returned v) ∧
      ((∃ xs, (∃ k, xs = starts sz k ∧ L ≤ k * sz ∧ (k = 0 ∨ (k - 1) * sz < L)) ∧ J xs W') ∨ (∃ pre, True ∧ Jx pre W')) := by
  have HY := Lib.hid hY
  clear hY
  go_enter Try.func30, Try.ntmps30
  go_upto_region 1 with fail
  go_loopw [4] (fun i wr => ∃ k X : Nat, Hid (X = k * sz ∧ (k = 0 ∨ (k - 1) * sz < L)) ∧ i = .int .i64 (X : Int) ∧ Hid (J (starts sz k) wr) ∧ wr.cell? ⟨gA, 0, none⟩ = some (.slice (some ⟨b, off, none⟩) L cap) ∧ wr.cell? ⟨gB, 0, none⟩ = some (.int .i64 sz)) (fun i _ => L - (intOf i).toNat)
  case atStart => exact ⟨0, 0, ⟨by simp, .inl rfl⟩, rfl, h0, hA, hB⟩
  case round =>
    obtain ⟨k, X, hk, rfl, hj, ha, hb⟩ := hrel
    by_cases hlt : X < L
    · have hltz : (X : Int) < (L : Int) := by exact_mod_cast hlt
      have hltb : decide ((X : Int) < (L : Int)) = true := decide_eq_true hltz
      have hle : X ≤ L := by omega
      have hlec : X ≤ cap := by omega
      go_upto_region 3 with fail
      obtain ⟨M, hM⟩ : ∃ M : Nat, M = min sz (L - X) := ⟨_, rfl⟩
      have hMx : X + M ≤ L := by omega
      have hM0 : 0 < M := by omega
      have hM1 : M ≤ L - X := by omega
      go_wp2_with fail
      go_big_quiet (fail)
      go_upto_region 4 with fail
      rw [show (if L - X < sz then ((L - X : Nat) : Int) else (sz : Int)) = (M : Int) by rw [hM]; split <;> omega]
      have hj2 : J (starts sz k) (wr.drewN nq) := hJ _ _ _ none hj.out (grown_drewN _ _ _) (fun _ e => by cases e)
      have hkL : k < L := by
        have h1 := hk.out.1
        have h2 : k * 1 ≤ k * sz := Nat.mul_le_mul_left _ hsz
        omega
      obtain ⟨fn, tmps, assign, body, hy, hR⟩ := HY.out _ X _ hj2 (by rw [starts_length]; exact hkL)
      have HR := Lib.hid hR
      clear hR hj2
      dsimp only [piece] at hy
      rw [← hM] at hy
      have hXM1 : (X : Int) + (M : Int) ≤ (cap : Int) := by omega
      have hXM2 : (X : Int) ≤ (X : Int) + (M : Int) := by omega
      have hXM3 : X + M ≤ cap := by omega
      have hXM4 : X ≤ X + M := by omega
      have ha' : (wr.drewN nq).cell? ⟨gA, 0, none⟩ = some (.slice (some ⟨b, off, none⟩) L cap) := ha
      have hb' : (wr.drewN nq).cell? ⟨gB, 0, none⟩ = some (.int .i64 sz) := hb
      generalize hw2 : wr.drewN nq = w2 at *
      have hXM5 : X + M - X = M := by omega
      have hXM6 : X + M ≤ 4096 := by omega
      have hXM7 := wrap_le hXM6
      have hXM8 := toNat_le X M
      have hXM9 := wrap_le2 hXM6 hsz'
      clear hM hMx hM1
      refine (wpIn_wide (n := n)).1 ?_
      gi_wp2_with fail
      refine HR.out.mono ?_
      rintro e W3 (⟨rfl, hJ3, hk3⟩ | ⟨rfl, hJx3⟩)
      · have ha3 := hk3.1.trans ha'
        have hb3 := hk3.2.trans hb'
        gi_wp2_with fail
        go_wp2_with fail
        go_roundw
        case rel => exact ⟨k + 1, X + sz, ⟨by have := hk.out.1; rw [Nat.add_mul]; omega, .inr (by have := hk.out.1; simpa [← this] using hlt)⟩, by rw [hXM9]; simp, by have := hk.out.1; have h := hJ3; rw [this, ← starts_succ] at h; exact h, ha3, hb3⟩
        case measure => rw [hXM9]; exact meas_lt hlt hsz
      · gi_wp2_with fail
        go_wp2_with fail
        refine bodyPost_ret (results_none rfl _ _ _) rfl ?_
        exact ⟨⟨_, rfl⟩, .inr ⟨_, trivial, hJx3⟩⟩
    · have hltz : ¬ (X : Int) < (L : Int) := by exact_mod_cast hlt
      have hltb : decide ((X : Int) < (L : Int)) = false := decide_eq_false hltz
      go_wp2_with fail
      go_end0
      exact ⟨⟨_, rfl⟩, .inl ⟨_, ⟨k, rfl, by have := hk.1; omega, hk.2⟩, hj⟩⟩
end Go.Proofs.Yteiiifonejkjbaa.Chunk
