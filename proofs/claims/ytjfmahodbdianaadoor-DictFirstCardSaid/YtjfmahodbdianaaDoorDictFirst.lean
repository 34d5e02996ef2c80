/-
  PROVED: the statement DictFirstCardSaid of the given cards: for every input the law DictFirst returns true, and every argument reads behind the call as it read before. Conditions: the listed package variables hold what the program's text lays (tied by the given tie).
-/
import Derived.Test.YtjfmahodbdianaaDoorFrameL
import Derived.Lay
import Derived.Test.YtjfmahodbdianaaDoorCards
import Derived.Test.YtjfmahodbdianaaDoorTie
import Derived.SevenTiedAt
import Derived.Test.YtjfmahodbdianaaDoorFirstW
import Derived.Test.YtjfmahodbdianaaDoorOpen4
namespace Go.Proofs.YtjfmahodbdianaaDoor.dictFirst
open Go.ChangeShapes Go.WideShapes Go.ChangeAt Go.WideMaps Go.WideElems Go.RowKit
open Go.ChangeMaps (open_string shut_string)
set_option linter.unusedVariables false

theorem own : ownKnob Tryd.prog.godebug = none := by kernel_rfl
theorem laidOut : laidOutB Tryd.prog = true := by kernel_rfl
theorem reads : Tryd.f6.params.toList.all (fun t => Tryd.prog.readableRec t && decide (t < Tryd.prog.types.size)) = true := by kernel_rfl

set_option maxRecDepth 100000 in
theorem step (os : Os) (started : os.Started) (H : Type) (enc : TypeId × Value → H) :
    ReturnsInHanded {} Tryd.checked os 6 .any (fun w args => (Rows.dictFirstSpec.pre enc Tryd.prog Tryd.f6 [] false w args ∧ laidMetH Tryd.prog Rows.dictFirstRow.laid w) ∧ sizedMet enc Tryd.prog Tryd.f6 (OpenSpec.ofChange Rows.dictFirstSpec) false w args) (Rows.dictFirstSpec.post enc Tryd.prog Tryd.f6 false true false false) := by
  refine Frame.liftedLaid Rows.dictFirstRow.laid (C := Tryd.checked) (F := 6) (fn := Tryd.f6) (s := Rows.dictFirstSpec) (T := 4) own started (by kernel_rfl) Tryd.func6 laidOut (Frame.reads_of reads) rfl ?spec rfl Tryd.underlying4
    (ChangeSpec.witness_shaped (enc := enc) (C := Tryd.checked) (os := os) (X := fun w _ => laidMetH Tryd.prog Rows.dictFirstRow.laid w) false (World.laidAll Tryd.prog os Rows.dictFirstRow.laid) #[.slice none 0 0, .slice none 0 0, .slice none 0 0] 8 (World.laidAll_os _ _ _) (World.shaped_of_ZipB (by kernel_rfl) (by kernel_rfl)) (by kernel_rfl) (by kernel_rfl) (by kernel_rfl) (by rw [MakeChecks.laidMetH_plain _ _ _ (by kernel_rfl)]; exact laidMet_laidAll _ (by kernel_rfl) (by kernel_rfl))) ?walk
  case spec =>
    intro ds h
    rw [Tryd.params6] at h
    obtain ⟨_, _, _, rfl⟩ := Frame.len3 h
    rfl
  case walk =>
    intro W base args ds p hval hA hsz hL
    have hA0 : DataW.TrodAll enc Tryd.prog W 0 (fun _ => true) true Tryd.f6.params.toList args.toList ds p := hA
    have hval0 : ∀ (j : Nat) t v, Tryd.f6.params[j]? = some t → args[j]? = some v → Value.okWide Tryd.prog W .any base t v := hval
    clear hA hval
    have hA := hA0
    have hval := hval0
    clear hA0 hval0
    rw [Tryd.params6] at hA hval
    obtain ⟨v0, vs0, d0, ds0, p0_, q0_, hargs, rfl, rfl, h0, r0_⟩ := trodAll_cons hA
    obtain ⟨v1, vs1, d1, ds1, p1_, q1_, rfl, rfl, rfl, h1, r1_⟩ := trodAll_cons r0_
    obtain ⟨v2, vs2, d2, ds2, p2_, q2_, rfl, rfl, rfl, h2, r2_⟩ := trodAll_cons r1_
    obtain ⟨rfl, rfl, rfl⟩ := trodAll_nil r2_
    obtain rfl : args = #[v0, v1, v2] := by cases args; simp_all
    have o0 := (hval 0 22 v0 rfl rfl)
    have o1 := (hval 1 23 v1 rfl rfl)
    have o2 := (hval 2 23 v2 rfl rfl)
    exact by obtain ⟨rs, k1, k2⟩ := Open.rules o0 h0; obtain ⟨al, k3, k4, k5⟩ := Open.attrs o1 h1; obtain ⟨bl, k6, k7, k8⟩ := Open.attrs o2 h2; exact Dict.first_ rs al bl _ _ _ W k1 k3 k6 k2 (fun x hx => ⟨k4 x hx, k5 (Open.sz_each hsz (j := 1) rfl rfl) x hx⟩) (fun x hx => ⟨k7 x hx, k8 (Open.sz_each hsz (j := 2) rfl rfl) x hx⟩) (Utf.tabs_of hL)

theorem proved : Rows.DictFirstSaid :=
  OpenClaim.holds_of_wide 6 Tryd.f6 rfl rfl rfl rfl rfl rfl rfl ⟨rfl, rfl, rfl, rfl, rfl⟩ rfl rfl rfl rfl rfl (by kernel_rfl) Tryd.func6 (by kernel_rfl)
    (of_decide_eq_true (by kernel_rfl)) (by unfold Func.isWrapper; first | (rw [if_pos (by decide +kernel)]; kernel_rfl) | (rw [if_neg (by decide +kernel)]; exact ⟨rfl, rfl⟩))
    (fun os started H enc _ => step os started H enc)

theorem card_proved : Rows.DictFirstCardSaid :=
  Claim7.holds_tied_plain_at .later [] [.data, .pinned] true (true, "a122b00d1982a1e517c015c15b87869f2b79e8d71d02114ab4275fa2672dc578") false
    proved (fun _ h => by cases h) (by kernel_rfl) (fun _ h => by cases h) dictFirst_row_tie rfl ⟨rfl, rfl⟩ (by kernel_rfl) rfl
    (fun f fn hf hfn => by
      obtain rfl : f = 6 := (Option.some.inj ((show Tryd.prog.funcNamed "trunkline/trunklinelaw17.DictFirst" = some 6 by kernel_rfl).symm.trans hf)).symm
      obtain rfl : fn = Tryd.f6 := (Option.some.inj (Tryd.func6.symm.trans hfn)).symm
      exact ⟨by kernel_rfl, fun j t ht => by
        rw [Tryd.params6] at ht
        match j, ht with
        | 0, ht =>
          obtain rfl : t = 22 := by simpa using ht.symm
          exact (show Tryd.prog.wantsStandIn 22 = false by kernel_rfl)
        | 1, ht =>
          obtain rfl : t = 23 := by simpa using ht.symm
          exact (show Tryd.prog.wantsStandIn 23 = false by kernel_rfl)
        | 2, ht =>
          obtain rfl : t = 23 := by simpa using ht.symm
          exact (show Tryd.prog.wantsStandIn 23 = false by kernel_rfl)
        | j + 3, ht => simp at ht⟩)
    (by kernel_rfl)
end Go.Proofs.YtjfmahodbdianaaDoor.dictFirst
