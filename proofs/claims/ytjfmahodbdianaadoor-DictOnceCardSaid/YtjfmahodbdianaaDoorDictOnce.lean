/-
  PROVED: the statement DictOnceCardSaid of the given cards: for every input the law DictOnce returns true, and every argument reads behind the call as it read before. Conditions: the listed package variables hold what the program's text lays (tied by the given tie).
-/
import Derived.Test.YtjfmahodbdianaaDoorFrameL
import Derived.Lay
import Derived.Test.YtjfmahodbdianaaDoorCards
import Derived.Test.YtjfmahodbdianaaDoorTie
import Derived.SevenTiedAt
import Derived.Test.YtjfmahodbdianaaDoorOnce1
namespace Go.Proofs.YtjfmahodbdianaaDoor.dictOnce
open Go.ChangeShapes Go.WideShapes Go.ChangeAt Go.WideMaps Go.WideElems Go.RowKit
open Go.ChangeMaps (open_string shut_string)
set_option linter.unusedVariables false

theorem own : ownKnob Tryd.prog.godebug = none := by kernel_rfl
theorem laidOut : laidOutB Tryd.prog = true := by kernel_rfl
theorem reads : Tryd.f5.params.toList.all (fun t => Tryd.prog.readableRec t && decide (t < Tryd.prog.types.size)) = true := by kernel_rfl

set_option maxRecDepth 100000 in
theorem step (os : Os) (started : os.Started) (H : Type) (enc : TypeId × Value → H) :
    ReturnsInHanded {} Tryd.checked os 5 .any (fun w args => (Rows.dictOnceSpec.pre enc Tryd.prog Tryd.f5 [] false w args ∧ laidMetH Tryd.prog Rows.dictOnceRow.laid w) ∧ sizedMet enc Tryd.prog Tryd.f5 (OpenSpec.ofChange Rows.dictOnceSpec) false w args) (Rows.dictOnceSpec.post enc Tryd.prog Tryd.f5 false true false false) := by
  refine Frame.liftedLaid Rows.dictOnceRow.laid (C := Tryd.checked) (F := 5) (fn := Tryd.f5) (s := Rows.dictOnceSpec) (T := 4) own started (by kernel_rfl) Tryd.func5 laidOut (Frame.reads_of reads) rfl ?spec rfl Tryd.underlying4
    (ChangeSpec.witness_shaped (enc := enc) (C := Tryd.checked) (os := os) (X := fun w _ => laidMetH Tryd.prog Rows.dictOnceRow.laid w) false (World.laidAll Tryd.prog os Rows.dictOnceRow.laid) #[.int .u8 0, .int .u8 0, .bool false, .slice none 0 0] 8 (World.laidAll_os _ _ _) (World.shaped_of_ZipB (by kernel_rfl) (by kernel_rfl)) (by kernel_rfl) (by kernel_rfl) (by kernel_rfl) (by rw [MakeChecks.laidMetH_plain _ _ _ (by kernel_rfl)]; exact laidMet_laidAll _ (by kernel_rfl) (by kernel_rfl))) ?walk
  case spec =>
    intro ds h
    rw [Tryd.params5] at h
    obtain ⟨_, _, _, _, rfl⟩ := Frame.len4 h
    rfl
  case walk =>
    intro W base args ds p hval hA hsz hL
    have hA0 : DataW.TrodAll enc Tryd.prog W 0 (fun _ => true) true Tryd.f5.params.toList args.toList ds p := hA
    have hval0 : ∀ (j : Nat) t v, Tryd.f5.params[j]? = some t → args[j]? = some v → Value.okWide Tryd.prog W .any base t v := hval
    clear hA hval
    have hA := hA0
    have hval := hval0
    clear hA0 hval0
    rw [Tryd.params5] at hA hval
    obtain ⟨v0, vs0, d0, ds0, p0_, q0_, hargs, rfl, rfl, h0, r0_⟩ := trodAll_cons hA
    obtain ⟨v1, vs1, d1, ds1, p1_, q1_, rfl, rfl, rfl, h1, r1_⟩ := trodAll_cons r0_
    obtain ⟨v2, vs2, d2, ds2, p2_, q2_, rfl, rfl, rfl, h2, r2_⟩ := trodAll_cons r1_
    obtain ⟨v3, vs3, d3, ds3, p3_, q3_, rfl, rfl, rfl, h3, r3_⟩ := trodAll_cons r2_
    obtain ⟨rfl, rfl, rfl⟩ := trodAll_nil r3_
    obtain rfl : args = #[v0, v1, v2, v3] := by cases args; simp_all
    obtain ⟨a0, rfl, rfl, rfl, w0⟩ := open_int Tryd.underlying5 (hval 0 5 v0 rfl rfl) h0
    have b0 := bounds_u8 w0
    obtain ⟨a1, rfl, rfl, rfl, w1⟩ := open_int Tryd.underlying5 (hval 1 5 v1 rfl rfl) h1
    have b1 := bounds_u8 w1
    obtain ⟨a2, rfl, rfl, rfl⟩ := open_bool Tryd.underlying4 (hval 2 4 v2 rfl rfl) h2
    obtain ⟨p3, l3, c3, z3, rfl, r3, e3⟩ := Frame.open_row Tryd.underlying32 Tryd.underlying5 (by kernel_rfl) (hval 3 32 v3 rfl rfl) h3
    have q3 := Frame.row_len (P := Tryd.prog) hsz (j := 3) rfl rfl Tryd.underlying32 e3 r3
    rw [show Tryd.prog.bytesOf 5 = 1 from by kernel_rfl] at q3
    exact by obtain ⟨n, rfl⟩ : ∃ n : Nat, a0 = n := ⟨a0.toNat, by omega⟩; obtain ⟨m, rfl⟩ : ∃ m : Nat, a1 = m := ⟨a1.toNat, by omega⟩; obtain ⟨k1, k2, k3⟩ := Mem.isRow_reads r3; exact Dict.once_ n m a2 _ _ W k1 (fun x hx => by have := bounds_u8 (k3 x hx); omega) (by rw [k2]; have := q3; omega) (by omega) (by omega)

theorem proved : Rows.DictOnceSaid :=
  OpenClaim.holds_of_wide 5 Tryd.f5 rfl rfl rfl rfl rfl rfl rfl ⟨rfl, rfl, rfl, rfl, rfl⟩ rfl rfl rfl rfl rfl (by kernel_rfl) Tryd.func5 (by kernel_rfl)
    (of_decide_eq_true (by kernel_rfl)) (by unfold Func.isWrapper; first | (rw [if_pos (by decide +kernel)]; kernel_rfl) | (rw [if_neg (by decide +kernel)]; exact ⟨rfl, rfl⟩))
    (fun os started H enc _ => step os started H enc)

theorem card_proved : Rows.DictOnceCardSaid :=
  Claim7.holds_tied_plain_at .later [] [.data, .pinned] true (true, "a122b00d1982a1e517c015c15b87869f2b79e8d71d02114ab4275fa2672dc578") false
    proved (fun _ h => by cases h) (by kernel_rfl) (fun _ h => by cases h) dictOnce_row_tie rfl ⟨rfl, rfl⟩ (by kernel_rfl) rfl
    (fun f fn hf hfn => by
      obtain rfl : f = 5 := (Option.some.inj ((show Tryd.prog.funcNamed "trunkline/trunklinelaw17.DictOnce" = some 5 by kernel_rfl).symm.trans hf)).symm
      obtain rfl : fn = Tryd.f5 := (Option.some.inj (Tryd.func5.symm.trans hfn)).symm
      exact ⟨by kernel_rfl, fun j t ht => by
        rw [Tryd.params5] at ht
        match j, ht with
        | 0, ht =>
          obtain rfl : t = 5 := by simpa using ht.symm
          exact (show Tryd.prog.wantsStandIn 5 = false by kernel_rfl)
        | 1, ht =>
          obtain rfl : t = 5 := by simpa using ht.symm
          exact (show Tryd.prog.wantsStandIn 5 = false by kernel_rfl)
        | 2, ht =>
          obtain rfl : t = 4 := by simpa using ht.symm
          exact (show Tryd.prog.wantsStandIn 4 = false by kernel_rfl)
        | 3, ht =>
          obtain rfl : t = 32 := by simpa using ht.symm
          exact (show Tryd.prog.wantsStandIn 32 = false by kernel_rfl)
        | j + 4, ht => simp at ht⟩)
    (by kernel_rfl)
end Go.Proofs.YtjfmahodbdianaaDoor.dictOnce
