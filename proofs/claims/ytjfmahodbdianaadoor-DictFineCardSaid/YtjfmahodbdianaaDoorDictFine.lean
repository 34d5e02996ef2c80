/-
  PROVED: the statement DictFineCardSaid of the given cards: for every input the law DictFine returns true, and every argument reads behind the call as it read before. Conditions: the listed package variables hold what the program's text lays (tied by the given tie).
-/
import Derived.Test.YtjfmahodbdianaaDoorFrameL
import Derived.Lay
import Derived.Test.YtjfmahodbdianaaDoorCards
import Derived.Test.YtjfmahodbdianaaDoorTie
import Derived.SevenTiedAt
import Derived.Test.YtjfmahodbdianaaDoorFineW
import Derived.Test.YtjfmahodbdianaaDoorOpen5
namespace Go.Proofs.YtjfmahodbdianaaDoor.dictFine
open Go.ChangeShapes Go.WideShapes Go.ChangeAt Go.WideMaps Go.WideElems Go.RowKit
open Go.ChangeMaps (open_string shut_string)
set_option linter.unusedVariables false

theorem own : ownKnob Tryd.prog.godebug = none := by kernel_rfl
theorem laidOut : laidOutB Tryd.prog = true := by kernel_rfl
theorem reads : Tryd.f4.params.toList.all (fun t => Tryd.prog.readableRec t && decide (t < Tryd.prog.types.size)) = true := by kernel_rfl

set_option maxRecDepth 100000 in
theorem step (os : Os) (started : os.Started) (H : Type) (enc : TypeId × Value → H) :
    ReturnsInHanded {} Tryd.checked os 4 .any (fun w args => (Rows.dictFineSpec.pre enc Tryd.prog Tryd.f4 [] false w args ∧ laidMetH Tryd.prog Rows.dictFineRow.laid w) ∧ sizedMet enc Tryd.prog Tryd.f4 (OpenSpec.ofChange Rows.dictFineSpec) false w args) (Rows.dictFineSpec.post enc Tryd.prog Tryd.f4 false true false false) := by
  refine Frame.liftedLaid Rows.dictFineRow.laid (C := Tryd.checked) (F := 4) (fn := Tryd.f4) (s := Rows.dictFineSpec) (T := 4) own started (by kernel_rfl) Tryd.func4 laidOut (Frame.reads_of reads) rfl ?spec rfl Tryd.underlying4
    (ChangeSpec.witness_shaped (enc := enc) (C := Tryd.checked) (os := os) (X := fun w _ => laidMetH Tryd.prog Rows.dictFineRow.laid w) false (World.laidAll Tryd.prog os Rows.dictFineRow.laid) #[.slice none 0 0, .slice none 0 0, .slice none 0 0, .agg #[.int .u32 0, .int .u32 0, .bool false, .bool false, .slice none 0 0]] 8 (World.laidAll_os _ _ _) (World.shaped_of_ZipB (by kernel_rfl) (by kernel_rfl)) (by kernel_rfl) (by kernel_rfl) (by kernel_rfl) (by rw [MakeChecks.laidMetH_plain _ _ _ (by kernel_rfl)]; exact laidMet_laidAll _ (by kernel_rfl) (by kernel_rfl))) ?walk
  case spec =>
    intro ds h
    rw [Tryd.params4] at h
    obtain ⟨_, _, _, _, rfl⟩ := Frame.len4 h
    rfl
  case walk =>
    intro W base args ds p hval hA hsz hL
    have hA0 : DataW.TrodAll enc Tryd.prog W 0 (fun _ => true) true Tryd.f4.params.toList args.toList ds p := hA
    have hval0 : ∀ (j : Nat) t v, Tryd.f4.params[j]? = some t → args[j]? = some v → Value.okWide Tryd.prog W .any base t v := hval
    clear hA hval
    have hA := hA0
    have hval := hval0
    clear hA0 hval0
    rw [Tryd.params4] at hA hval
    obtain ⟨v0, vs0, d0, ds0, p0_, q0_, hargs, rfl, rfl, h0, r0_⟩ := trodAll_cons hA
    obtain ⟨v1, vs1, d1, ds1, p1_, q1_, rfl, rfl, rfl, h1, r1_⟩ := trodAll_cons r0_
    obtain ⟨v2, vs2, d2, ds2, p2_, q2_, rfl, rfl, rfl, h2, r2_⟩ := trodAll_cons r1_
    obtain ⟨v3, vs3, d3, ds3, p3_, q3_, rfl, rfl, rfl, h3, r3_⟩ := trodAll_cons r2_
    obtain ⟨rfl, rfl, rfl⟩ := trodAll_nil r3_
    obtain rfl : args = #[v0, v1, v2, v3] := by cases args; simp_all
    have o0 := (hval 0 22 v0 rfl rfl)
    have o1 := (hval 1 23 v1 rfl rfl)
    obtain ⟨p2, l2, c2, z2, rfl, r2, e2⟩ := Frame.open_row Tryd.underlying32 Tryd.underlying5 (by kernel_rfl) (hval 2 32 v2 rfl rfl) h2
    have o3 := (hval 3 35 v3 rfl rfl)
    have q2 := Frame.row_len (P := Tryd.prog) hsz (j := 2) rfl rfl Tryd.underlying32 e2 r2
    rw [show Tryd.prog.bytesOf 5 = 1 from by kernel_rfl] at q2
    exact by obtain ⟨rs, k1, k2⟩ := Open.rules o0 h0; obtain ⟨al, k3, k4, k5⟩ := Open.attrs o1 h1; obtain ⟨x, pd, cd, rfl, x1, x2, x3⟩ := Open.avp1 o3 h3; obtain ⟨n1, n2, n3⟩ := Mem.isRow_reads r2; exact Dict.fine_ rs al _ x _ _ _ pd cd W k1 k3 n1 (fun z hz => by have := bounds_u8 (n3 z hz); omega) ⟨x2, x3 (Open.sz_each hsz (j := 3) rfl rfl)⟩ x1 k2 (fun x hx => ⟨k4 x hx, k5 (Open.sz_each hsz (j := 1) rfl rfl) x hx⟩) (Utf.tabs_of hL)

theorem proved : Rows.DictFineSaid :=
  OpenClaim.holds_of_wide 4 Tryd.f4 rfl rfl rfl rfl rfl rfl rfl ⟨rfl, rfl, rfl, rfl, rfl⟩ rfl rfl rfl rfl rfl (by kernel_rfl) Tryd.func4 (by kernel_rfl)
    (of_decide_eq_true (by kernel_rfl)) (by unfold Func.isWrapper; first | (rw [if_pos (by decide +kernel)]; kernel_rfl) | (rw [if_neg (by decide +kernel)]; exact ⟨rfl, rfl⟩))
    (fun os started H enc _ => step os started H enc)

theorem card_proved : Rows.DictFineCardSaid :=
  Claim7.holds_tied_plain_at .later [] [.data, .pinned] true (true, "a122b00d1982a1e517c015c15b87869f2b79e8d71d02114ab4275fa2672dc578") false
    proved (fun _ h => by cases h) (by kernel_rfl) (fun _ h => by cases h) dictFine_row_tie rfl ⟨rfl, rfl⟩ (by kernel_rfl) rfl
    (fun f fn hf hfn => by
      obtain rfl : f = 4 := (Option.some.inj ((show Tryd.prog.funcNamed "trunkline/trunklinelaw17.DictFine" = some 4 by kernel_rfl).symm.trans hf)).symm
      obtain rfl : fn = Tryd.f4 := (Option.some.inj (Tryd.func4.symm.trans hfn)).symm
      exact ⟨by kernel_rfl, fun j t ht => by
        rw [Tryd.params4] at ht
        match j, ht with
        | 0, ht =>
          obtain rfl : t = 22 := by simpa using ht.symm
          exact (show Tryd.prog.wantsStandIn 22 = false by kernel_rfl)
        | 1, ht =>
          obtain rfl : t = 23 := by simpa using ht.symm
          exact (show Tryd.prog.wantsStandIn 23 = false by kernel_rfl)
        | 2, ht =>
          obtain rfl : t = 32 := by simpa using ht.symm
          exact (show Tryd.prog.wantsStandIn 32 = false by kernel_rfl)
        | 3, ht =>
          obtain rfl : t = 35 := by simpa using ht.symm
          exact (show Tryd.prog.wantsStandIn 35 = false by kernel_rfl)
        | j + 4, ht => simp at ht⟩)
    (by kernel_rfl)
end Go.Proofs.YtjfmahodbdianaaDoor.dictFine
