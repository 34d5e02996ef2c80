/-
  PROVED: the statement AvpDeepSaid of the given rows: for every input the law AvpDeep returns true, and every argument reads behind the call as it read before. No condition.
-/
import Derived.Test.YtjfponhdlfhmbaaFrame
import Derived.Test.YtjfponhdlfhmbaaFrame
import Derived.Test.YtjfponhdlfhmbaaDeep5
namespace Go.Proofs.Ytjfponhdlfhmbaa.avpDeep
open Go.ChangeShapes Go.WideShapes Go.ChangeAt Go.RowKit
open Go.ChangeMaps (open_string shut_string)
set_option linter.unusedVariables false

theorem own : ownKnob Try.prog.godebug = none := by kernel_rfl
theorem laidOut : laidOutB Try.prog = true := by kernel_rfl
theorem reads : Try.f7.params.toList.all (fun t => Try.prog.readableRec t && decide (t < Try.prog.types.size)) = true := by kernel_rfl

set_option maxRecDepth 100000 in
theorem step (os : Os) (started : os.Started) (H : Type) (enc : TypeId × Value → H) :
    ReturnsInHanded {} Try.checked os 7 .any (Rows.avpDeepSpec.pre6 enc Try.prog Try.f7 Rows.avpDeepRow.domain false) (Rows.avpDeepSpec.post enc Try.prog Try.f7 false true false false) := by
  refine Frame.lifted (C := Try.checked) (F := 7) (fn := Try.f7) (s := Rows.avpDeepSpec) (T := 4) own started (by kernel_rfl) Try.func7 laidOut (Frame.reads_of reads) rfl ?spec rfl Try.underlying4
    (ChangeSpec.witness6 (enc := enc) (C := Try.checked) false ⟨#[], #[.int .u8 0, .int .u32 0, .slice none 0 0], []⟩ 8 (by kernel_rfl) (by kernel_rfl) (by kernel_rfl) (by kernel_rfl)) ?walk
  case spec =>
    intro ds h
    rw [Try.params7] at h
    obtain ⟨_, _, _, rfl⟩ := Frame.len3 h
    rfl
  case walk =>
    intro W base args ds p hval hA
    have hA0 : DataW.TrodAll enc Try.prog W 0 (fun _ => true) true Try.f7.params.toList args.toList ds p := hA
    have hval0 : ∀ (j : Nat) t v, Try.f7.params[j]? = some t → args[j]? = some v → Value.okWide Try.prog W .any base t v := hval
    clear hA hval
    have hA := hA0
    have hval := hval0
    clear hA0 hval0
    rw [Try.params7] at hA hval
    obtain ⟨v0, vs0, d0, ds0, p0_, q0_, hargs, rfl, rfl, h0, r0_⟩ := trodAll_cons hA
    obtain ⟨v1, vs1, d1, ds1, p1_, q1_, rfl, rfl, rfl, h1, r1_⟩ := trodAll_cons r0_
    obtain ⟨v2, vs2, d2, ds2, p2_, q2_, rfl, rfl, rfl, h2, r2_⟩ := trodAll_cons r1_
    obtain ⟨rfl, rfl, rfl⟩ := trodAll_nil r2_
    obtain rfl : args = #[v0, v1, v2] := by cases args; simp_all
    obtain ⟨a0, rfl, rfl, rfl, w0⟩ := open_int Try.underlying5 (hval 0 5 v0 rfl rfl) h0
    have b0 := bounds_u8 w0
    obtain ⟨a1, rfl, rfl, rfl, w1⟩ := open_int Try.underlying39 (hval 1 39 v1 rfl rfl) h1
    have b1 := bounds_u32 w1
    obtain ⟨p2, l2, c2, z2, rfl, r2, e2⟩ := Frame.open_row Try.underlying23 Try.underlying5 (by kernel_rfl) (hval 2 23 v2 rfl rfl) h2
    exact by obtain ⟨k1, k2, k3⟩ := Mem.isRow_reads r2; exact Deep.deep a0 a1 _ _ W (by omega) (by omega) (by omega) (by omega) k1 (fun z hz => by have := bounds_u8 (k3 z hz); omega)

theorem proved : Rows.AvpDeepSaid :=
  OpenClaim.holds_of_wide 7 Try.f7 rfl rfl rfl rfl rfl rfl rfl ⟨rfl, rfl, rfl, rfl, rfl⟩ rfl rfl rfl rfl rfl (by kernel_rfl) Try.func7 (by kernel_rfl)
    (of_decide_eq_true (by kernel_rfl)) (by unfold Func.isWrapper; first | (rw [if_pos (by decide +kernel)]; kernel_rfl) | (rw [if_neg (by decide +kernel)]; exact ⟨rfl, rfl⟩))
    (fun os started H enc _ => step os started H enc)
end Go.Proofs.Ytjfponhdlfhmbaa.avpDeep
