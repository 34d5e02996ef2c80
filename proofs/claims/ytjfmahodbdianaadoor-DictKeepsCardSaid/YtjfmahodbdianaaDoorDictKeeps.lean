/-
  PROVED: the statement DictKeepsCardSaid of the given cards: for every input the law DictKeeps returns true, and every argument reads behind the call as it read before. Conditions: the listed package variables hold what the program's text lays (tied by the given tie).
-/
import Derived.Test.YtjfmahodbdianaaDoorFrameL
import Derived.Lay
import Derived.Test.YtjfmahodbdianaaDoorCards
import Derived.Test.YtjfmahodbdianaaDoorTie
import Derived.SevenTiedAt
import Derived.Test.YtjfmahodbdianaaDoorKeeps1
namespace Go.Proofs.YtjfmahodbdianaaDoor.dictKeeps
open Go.ChangeShapes Go.WideShapes Go.ChangeAt Go.WideMaps Go.WideElems Go.RowKit
open Go.ChangeMaps (open_string shut_string)
set_option linter.unusedVariables false

theorem own : ownKnob Tryd.prog.godebug = none := by kernel_rfl
theorem laidOut : laidOutB Tryd.prog = true := by kernel_rfl
theorem reads : Tryd.f7.params.toList.all (fun t => Tryd.prog.readableRec t && decide (t < Tryd.prog.types.size)) = true := by kernel_rfl

set_option maxRecDepth 100000 in
theorem step (os : Os) (started : os.Started) (H : Type) (enc : TypeId × Value → H) :
    ReturnsInHanded {} Tryd.checked os 7 .any (fun w args => (Rows.dictKeepsSpec.pre enc Tryd.prog Tryd.f7 [] false w args ∧ laidMetH Tryd.prog Rows.dictKeepsRow.laid w) ∧ sizedMet enc Tryd.prog Tryd.f7 (OpenSpec.ofChange Rows.dictKeepsSpec) false w args) (Rows.dictKeepsSpec.post enc Tryd.prog Tryd.f7 false true false false) := by
  refine Frame.liftedLaid Rows.dictKeepsRow.laid (C := Tryd.checked) (F := 7) (fn := Tryd.f7) (s := Rows.dictKeepsSpec) (T := 4) own started (by kernel_rfl) Tryd.func7 laidOut (Frame.reads_of reads) rfl ?spec rfl Tryd.underlying4
    (ChangeSpec.witness_shaped (enc := enc) (C := Tryd.checked) (os := os) (X := fun w _ => laidMetH Tryd.prog Rows.dictKeepsRow.laid w) false (World.laidAll Tryd.prog os Rows.dictKeepsRow.laid) #[.slice none 0 0] 8 (World.laidAll_os _ _ _) (World.shaped_of_ZipB (by kernel_rfl) (by kernel_rfl)) (by kernel_rfl) (by kernel_rfl) (by kernel_rfl) (by rw [MakeChecks.laidMetH_plain _ _ _ (by kernel_rfl)]; exact laidMet_laidAll _ (by kernel_rfl) (by kernel_rfl))) ?walk
  case spec =>
    intro ds h
    rw [Tryd.params7] at h
    obtain ⟨_, rfl⟩ := Frame.len1 h
    rfl
  case walk =>
    intro W base args ds p hval hA hsz hL
    have hA0 : DataW.TrodAll enc Tryd.prog W 0 (fun _ => true) true Tryd.f7.params.toList args.toList ds p := hA
    have hval0 : ∀ (j : Nat) t v, Tryd.f7.params[j]? = some t → args[j]? = some v → Value.okWide Tryd.prog W .any base t v := hval
    clear hA hval
    have hA := hA0
    have hval := hval0
    clear hA0 hval0
    rw [Tryd.params7] at hA hval
    obtain ⟨v0, vs0, d0, ds0, p0_, q0_, hargs, rfl, rfl, h0, r0_⟩ := trodAll_cons hA
    obtain ⟨rfl, rfl, rfl⟩ := trodAll_nil r0_
    obtain rfl : args = #[v0] := by cases args; simp_all
    obtain ⟨p0, l0, c0, z0, rfl, r0, e0⟩ := Frame.open_row Tryd.underlying32 Tryd.underlying5 (by kernel_rfl) (hval 0 32 v0 rfl rfl) h0
    have q0 := Frame.row_len (P := Tryd.prog) hsz (j := 0) rfl rfl Tryd.underlying32 e0 r0
    rw [show Tryd.prog.bytesOf 5 = 1 from by kernel_rfl] at q0
    exact by obtain ⟨h1, h2, h3⟩ := Mem.isRow_reads r0; exact Dict.keeps_ _ _ W h1 (fun x hx => by have := bounds_u8 (h3 x hx); omega) (by rw [h2]; have := q0; omega)

theorem proved : Rows.DictKeepsSaid :=
  OpenClaim.holds_of_wide 7 Tryd.f7 rfl rfl rfl rfl rfl rfl rfl ⟨rfl, rfl, rfl, rfl, rfl⟩ rfl rfl rfl rfl rfl (by kernel_rfl) Tryd.func7 (by kernel_rfl)
    (of_decide_eq_true (by kernel_rfl)) (by unfold Func.isWrapper; first | (rw [if_pos (by decide +kernel)]; kernel_rfl) | (rw [if_neg (by decide +kernel)]; exact ⟨rfl, rfl⟩))
    (fun os started H enc _ => step os started H enc)

theorem card_proved : Rows.DictKeepsCardSaid :=
  Claim7.holds_tied_plain_at .later [] [.data, .pinned] true (true, "a122b00d1982a1e517c015c15b87869f2b79e8d71d02114ab4275fa2672dc578") false
    proved (fun _ h => by cases h) (by kernel_rfl) (fun _ h => by cases h) dictKeeps_row_tie rfl ⟨rfl, rfl⟩ (by kernel_rfl) rfl
    (fun f fn hf hfn => by
      obtain rfl : f = 7 := (Option.some.inj ((show Tryd.prog.funcNamed "trunkline/trunklinelaw17.DictKeeps" = some 7 by kernel_rfl).symm.trans hf)).symm
      obtain rfl : fn = Tryd.f7 := (Option.some.inj (Tryd.func7.symm.trans hfn)).symm
      exact ⟨by kernel_rfl, fun j t ht => by
        rw [Tryd.params7] at ht
        match j, ht with
        | 0, ht =>
          obtain rfl : t = 32 := by simpa using ht.symm
          exact (show Tryd.prog.wantsStandIn 32 = false by kernel_rfl)
        | j + 1, ht => simp at ht⟩)
    (by kernel_rfl)
end Go.Proofs.YtjfmahodbdianaaDoor.dictKeeps
