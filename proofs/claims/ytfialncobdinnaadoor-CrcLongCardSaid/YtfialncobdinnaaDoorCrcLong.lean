/-
  PROVED: the statement CrcLongCardSaid of the given cards: for every input the law CrcLong returns true, and every argument reads behind the call as it read before. Conditions: the listed package variables hold what the program's text lays (tied by the given tie).
-/
import Derived.Test.YtfialncobdinnaaDoorFrameL
import Derived.Test.YtfialncobdinnaaDoorCards
import Derived.Test.YtfialncobdinnaaDoorTie
import Derived.SevenTiedAt
import Derived.Test.YtfialncobdinnaaDoorZeros4
namespace Go.Proofs.YtfialncobdinnaaDoor.crcLong
open Go.ChangeShapes Go.WideShapes Go.ChangeAt Go.WideMaps Go.WideElems Go.RowKit
open Go.ChangeMaps (open_string shut_string)
set_option linter.unusedVariables false

theorem own : ownKnob Tryd.prog.godebug = none := by kernel_rfl
theorem laidOut : laidOutB Tryd.prog = true := by kernel_rfl
theorem reads : Tryd.f4.params.toList.all (fun t => Tryd.prog.readableRec t && decide (t < Tryd.prog.types.size)) = true := by kernel_rfl

theorem door_met (os : Os) (args : Array Value) : laidMetH Tryd.prog Rows.crcLongRow.laid ((World.doorLaid Tryd.prog 14 os).forCall (fun _ _ => 0) ⟨#[], args, []⟩).memory :=
  laidMetH_of_parts3 (fuel := 8) (laidMet_of_run' 8 (by kernel_rfl) (by kernel_rfl)) (by kernel_rfl) (by kernel_rfl)

set_option maxRecDepth 100000 in
theorem step (os : Os) (started : os.Started) (H : Type) (enc : TypeId × Value → H) :
    ReturnsInHanded {} Tryd.checked os 4 .any (fun w args => (Rows.crcLongSpec.pre enc Tryd.prog Tryd.f4 [] false w args ∧ laidMetH Tryd.prog Rows.crcLongRow.laid w) ∧ sizedMet enc Tryd.prog Tryd.f4 (OpenSpec.ofChange Rows.crcLongSpec) false w args) (Rows.crcLongSpec.post enc Tryd.prog Tryd.f4 false true false false) := by
  refine Frame.liftedLaid Rows.crcLongRow.laid (C := Tryd.checked) (F := 4) (fn := Tryd.f4) (s := Rows.crcLongSpec) (T := 4) own started (by kernel_rfl) Tryd.func4 laidOut (Frame.reads_of reads) rfl ?spec rfl Tryd.underlying4
    (ChangeSpec.witness_shaped (enc := enc) (C := Tryd.checked) (os := os) (X := fun w _ => laidMetH Tryd.prog Rows.crcLongRow.laid w) false (World.doorLaid Tryd.prog 14 os) #[.int .u32 0, .int .u32 0, .int .u32 0, .int .i64 0, .int .i64 0] 8 rfl (World.shaped_of_RefB (by kernel_rfl) (by kernel_rfl)) (by kernel_rfl) (by kernel_rfl) (by kernel_rfl) (door_met os _)) ?walk
  case spec =>
    intro ds h
    rw [Tryd.params4] at h
    obtain ⟨_, _, _, _, _, rfl⟩ := Frame.len5 h
    rfl
  case walk =>
    intro W base args ds p hval hA hsz hL
    have hA0 : DataW.TrodAll enc Tryd.prog W 0 (fun _ => true) true Tryd.f4.params.toList args.toList ds p := hA
    have hval0 : ∀ (j : Nat) t v, Tryd.f4.params[j]? = some t → args[j]? = some v → Value.okWide Tryd.prog W .any base t v := hval
    clear hA hval
    have hA := hA0
    have hval := hval0
    clear hA0 hval0
    rw [Tryd.params4] at hA hval
    obtain ⟨v0, vs0, d0, ds0, p0_, q0_, hargs, rfl, rfl, h0, r0_⟩ := trodAll_cons hA
    obtain ⟨v1, vs1, d1, ds1, p1_, q1_, rfl, rfl, rfl, h1, r1_⟩ := trodAll_cons r0_
    obtain ⟨v2, vs2, d2, ds2, p2_, q2_, rfl, rfl, rfl, h2, r2_⟩ := trodAll_cons r1_
    obtain ⟨v3, vs3, d3, ds3, p3_, q3_, rfl, rfl, rfl, h3, r3_⟩ := trodAll_cons r2_
    obtain ⟨v4, vs4, d4, ds4, p4_, q4_, rfl, rfl, rfl, h4, r4_⟩ := trodAll_cons r3_
    obtain ⟨rfl, rfl, rfl⟩ := trodAll_nil r4_
    obtain rfl : args = #[v0, v1, v2, v3, v4] := by cases args; simp_all
    obtain ⟨a0, rfl, rfl, rfl, w0⟩ := open_int Tryd.underlying22 (hval 0 22 v0 rfl rfl) h0
    have b0 := bounds_u32 w0
    obtain ⟨a1, rfl, rfl, rfl, w1⟩ := open_int Tryd.underlying22 (hval 1 22 v1 rfl rfl) h1
    have b1 := bounds_u32 w1
    obtain ⟨a2, rfl, rfl, rfl, w2⟩ := open_int Tryd.underlying22 (hval 2 22 v2 rfl rfl) h2
    have b2 := bounds_u32 w2
    obtain ⟨a3, rfl, rfl, rfl, w3⟩ := open_int Tryd.underlying3 (hval 3 3 v3 rfl rfl) h3
    have b3 := bounds_i64 w3
    obtain ⟨a4, rfl, rfl, rfl, w4⟩ := open_int Tryd.underlying3 (hval 4 3 v4 rfl rfl) h4
    have b4 := bounds_i64 w4
    exact by obtain ⟨x, rfl⟩ : ∃ s : Nat, a0 = s := ⟨a0.toNat, by omega⟩; obtain ⟨y, rfl⟩ : ∃ n : Nat, a1 = n := ⟨a1.toNat, by omega⟩; obtain ⟨z, rfl⟩ : ∃ n : Nat, a2 = n := ⟨a2.toNat, by omega⟩; exact Crc.long_ x y z a3 a4 W (by omega) (by omega) (by omega) (Crc.tab_of hL)

theorem proved : Rows.CrcLongSaid :=
  OpenClaim.holds_of_wide 4 Tryd.f4 rfl rfl rfl rfl rfl rfl rfl ⟨rfl, rfl, rfl, rfl, rfl⟩ rfl rfl rfl rfl rfl (by kernel_rfl) Tryd.func4 (by kernel_rfl)
    (of_decide_eq_true (by kernel_rfl)) (by unfold Func.isWrapper; first | (rw [if_pos (by decide +kernel)]; kernel_rfl) | (rw [if_neg (by decide +kernel)]; exact ⟨rfl, rfl⟩))
    (fun os started H enc _ => step os started H enc)

theorem card_proved : Rows.CrcLongCardSaid :=
  Claim7.holds_tied_plain_at .later [] [.data] true (true, "ef19bc35cbbc07fc662050d10c2e0e351066b8565cf76944d53ccd958107631d") false
    proved (fun _ h => by cases h) (by kernel_rfl) (fun _ h => by cases h) crcLong_row_tie rfl ⟨rfl, rfl⟩ (by kernel_rfl) rfl
    (fun f fn hf hfn => by
      obtain rfl : f = 4 := (Option.some.inj ((show Tryd.prog.funcNamed "trunkline/trunklinelaw03.CrcLong" = some 4 by kernel_rfl).symm.trans hf)).symm
      obtain rfl : fn = Tryd.f4 := (Option.some.inj (Tryd.func4.symm.trans hfn)).symm
      exact ⟨by kernel_rfl, fun j t ht => by
        rw [Tryd.params4] at ht
        match j, ht with
        | 0, ht =>
          obtain rfl : t = 22 := by simpa using ht.symm
          exact (show Tryd.prog.wantsStandIn 22 = false by kernel_rfl)
        | 1, ht =>
          obtain rfl : t = 22 := by simpa using ht.symm
          exact (show Tryd.prog.wantsStandIn 22 = false by kernel_rfl)
        | 2, ht =>
          obtain rfl : t = 22 := by simpa using ht.symm
          exact (show Tryd.prog.wantsStandIn 22 = false by kernel_rfl)
        | 3, ht =>
          obtain rfl : t = 3 := by simpa using ht.symm
          exact (show Tryd.prog.wantsStandIn 3 = false by kernel_rfl)
        | 4, ht =>
          obtain rfl : t = 3 := by simpa using ht.symm
          exact (show Tryd.prog.wantsStandIn 3 = false by kernel_rfl)
        | j + 5, ht => simp at ht⟩)
    (by kernel_rfl)
end Go.Proofs.YtfialncobdinnaaDoor.crcLong
