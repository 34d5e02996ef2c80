/-
  PROVED: the statement AvpFitsCardSaid of the given cards: for every input the law AvpFits returns true, and every argument reads behind the call as it read before. Conditions: the listed package variables hold what the program's text lays (tied by the given tie).
-/
import Derived.Test.YtjfponhdlfhmbaaDoorFrameL
import Derived.Lay
import Derived.Test.YtjfponhdlfhmbaaDoorCards
import Derived.Test.YtjfponhdlfhmbaaDoorTie
import Derived.SevenTiedAt
import Derived.Test.YtjfponhdlfhmbaaDoorFitsW
namespace Go.Proofs.YtjfponhdlfhmbaaDoor.avpFits
open Go.ChangeShapes Go.WideShapes Go.ChangeAt Go.WideMaps Go.WideElems Go.RowKit
open Go.ChangeMaps (open_string shut_string)
set_option linter.unusedVariables false

theorem own : ownKnob Tryd.prog.godebug = none := by kernel_rfl
theorem laidOut : laidOutB Tryd.prog = true := by kernel_rfl
theorem reads : Tryd.f3.params.toList.all (fun t => Tryd.prog.readableRec t && decide (t < Tryd.prog.types.size)) = true := by kernel_rfl

set_option maxRecDepth 100000 in
theorem step (os : Os) (started : os.Started) (H : Type) (enc : TypeId × Value → H) :
    ReturnsInHanded {} Tryd.checked os 3 .any (fun w args => (Rows.avpFitsSpec.pre enc Tryd.prog Tryd.f3 [] false w args ∧ laidMetH Tryd.prog Rows.avpFitsRow.laid w) ∧ sizedMet enc Tryd.prog Tryd.f3 (OpenSpec.ofChange Rows.avpFitsSpec) false w args) (Rows.avpFitsSpec.post enc Tryd.prog Tryd.f3 false true false false) := by
  refine Frame.liftedLaid Rows.avpFitsRow.laid (C := Tryd.checked) (F := 3) (fn := Tryd.f3) (s := Rows.avpFitsSpec) (T := 4) own started (by kernel_rfl) Tryd.func3 laidOut (Frame.reads_of reads) rfl ?spec rfl Tryd.underlying4
    (ChangeSpec.witness_shaped (enc := enc) (C := Tryd.checked) (os := os) (X := fun w _ => laidMetH Tryd.prog Rows.avpFitsRow.laid w) false (World.laidAll Tryd.prog os Rows.avpFitsRow.laid) #[.int .i64 0, .slice none 0 0] 8 (World.laidAll_os _ _ _) (World.shaped_of_ZipB (by kernel_rfl) (by kernel_rfl)) (by kernel_rfl) (by kernel_rfl) (by kernel_rfl) (by rw [MakeChecks.laidMetH_plain _ _ _ (by kernel_rfl)]; exact laidMet_laidAll _ (by kernel_rfl) (by kernel_rfl))) ?walk
  case spec =>
    intro ds h
    rw [Tryd.params3] at h
    obtain ⟨_, _, rfl⟩ := Frame.len2 h
    rfl
  case walk =>
    intro W base args ds p hval hA hsz hL
    have hA0 : DataW.TrodAll enc Tryd.prog W 0 (fun _ => true) true Tryd.f3.params.toList args.toList ds p := hA
    have hval0 : ∀ (j : Nat) t v, Tryd.f3.params[j]? = some t → args[j]? = some v → Value.okWide Tryd.prog W .any base t v := hval
    clear hA hval
    have hA := hA0
    have hval := hval0
    clear hA0 hval0
    rw [Tryd.params3] at hA hval
    obtain ⟨v0, vs0, d0, ds0, p0_, q0_, hargs, rfl, rfl, h0, r0_⟩ := trodAll_cons hA
    obtain ⟨v1, vs1, d1, ds1, p1_, q1_, rfl, rfl, rfl, h1, r1_⟩ := trodAll_cons r0_
    obtain ⟨rfl, rfl, rfl⟩ := trodAll_nil r1_
    obtain rfl : args = #[v0, v1] := by cases args; simp_all
    obtain ⟨a0, rfl, rfl, rfl, w0⟩ := open_int Tryd.underlying3 (hval 0 3 v0 rfl rfl) h0
    have b0 := bounds_i64 w0
    obtain ⟨p1, l1, c1, z1, rfl, r1, e1⟩ := Frame.open_row Tryd.underlying22 Tryd.underlying5 (by kernel_rfl) (hval 1 22 v1 rfl rfl) h1
    have q1 := Frame.row_len (P := Tryd.prog) hsz (j := 1) rfl rfl Tryd.underlying22 e1 r1
    rw [show Tryd.prog.bytesOf 5 = 1 from by kernel_rfl] at q1
    exact by obtain ⟨k1, k2, k3⟩ := Mem.isRow_reads r1; exact Fit.fitsLaw a0 _ _ W k1 (fun x hx => by have := bounds_u8 (k3 x hx); omega) (by rw [k2]; have := q1; omega) (Utf.tabs_of hL)

theorem proved : Rows.AvpFitsSaid :=
  OpenClaim.holds_of_wide 3 Tryd.f3 rfl rfl rfl rfl rfl rfl rfl ⟨rfl, rfl, rfl, rfl, rfl⟩ rfl rfl rfl rfl rfl (by kernel_rfl) Tryd.func3 (by kernel_rfl)
    (of_decide_eq_true (by kernel_rfl)) (by unfold Func.isWrapper; first | (rw [if_pos (by decide +kernel)]; kernel_rfl) | (rw [if_neg (by decide +kernel)]; exact ⟨rfl, rfl⟩))
    (fun os started H enc _ => step os started H enc)

theorem card_proved : Rows.AvpFitsCardSaid :=
  Claim7.holds_tied_plain_at .later [] [.data, .pinned] true (true, "33485386a916b8b7386d53f3b7a3aae842ee2c257238cdef57afb36fc79b76d5") false
    proved (fun _ h => by cases h) (by kernel_rfl) (fun _ h => by cases h) avpFits_row_tie rfl ⟨rfl, rfl⟩ (by kernel_rfl) rfl
    (fun f fn hf hfn => by
      obtain rfl : f = 3 := (Option.some.inj ((show Tryd.prog.funcNamed "trunkline/trunklinelaw16.AvpFits" = some 3 by kernel_rfl).symm.trans hf)).symm
      obtain rfl : fn = Tryd.f3 := (Option.some.inj (Tryd.func3.symm.trans hfn)).symm
      exact ⟨by kernel_rfl, fun j t ht => by
        rw [Tryd.params3] at ht
        match j, ht with
        | 0, ht =>
          obtain rfl : t = 3 := by simpa using ht.symm
          exact (show Tryd.prog.wantsStandIn 3 = false by kernel_rfl)
        | 1, ht =>
          obtain rfl : t = 22 := by simpa using ht.symm
          exact (show Tryd.prog.wantsStandIn 22 = false by kernel_rfl)
        | j + 2, ht => simp at ht⟩)
    (by kernel_rfl)
end Go.Proofs.YtjfponhdlfhmbaaDoor.avpFits
