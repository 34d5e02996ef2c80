/-
  PROVED: the statement RealMeansSaid of the given rows: for every input the law RealMeans returns true, and every argument reads behind the call as it read before. No condition.
-/
import Derived.Test.YtljinegonoomcaaFrame
import Derived.Test.YtljinegonoomcaaMean2
namespace Go.Proofs.Ytljinegonoomcaa.realMeans
open Go.ChangeShapes Go.WideShapes Go.ChangeAt Go.RowKit
open Go.ChangeMaps (open_string shut_string)
set_option linter.unusedVariables false

theorem own : ownKnob Try.prog.godebug = none := by kernel_rfl
theorem laidOut : laidOutB Try.prog = true := by kernel_rfl
theorem reads : Try.f6.params.toList.all (fun t => Try.prog.readableRec t && decide (t < Try.prog.types.size)) = true := by kernel_rfl

set_option maxRecDepth 100000 in
theorem step (os : Os) (started : os.Started) (H : Type) (enc : TypeId × Value → H) :
    ReturnsInHanded {} Try.checked os 6 .any (Rows.realMeansSpec.pre6 enc Try.prog Try.f6 Rows.realMeansRow.domain false) (Rows.realMeansSpec.post enc Try.prog Try.f6 false true false false) := by
  refine Frame.lifted (C := Try.checked) (F := 6) (fn := Try.f6) (s := Rows.realMeansSpec) (T := 4) own started (by kernel_rfl) Try.func6 laidOut (Frame.reads_of reads) rfl ?spec rfl Try.underlying4
    (ChangeSpec.witness6 (enc := enc) (C := Try.checked) false ⟨#[], #[.int .u64 0, .int .u64 0], []⟩ 8 (by kernel_rfl) (by kernel_rfl) (by kernel_rfl) (by kernel_rfl)) ?walk
  case spec =>
    intro ds h
    rw [Try.params6] at h
    obtain ⟨_, _, rfl⟩ := Frame.len2 h
    rfl
  case walk =>
    intro W base args ds p hval hA
    have hA0 : DataW.TrodAll enc Try.prog W 0 (fun _ => true) true Try.f6.params.toList args.toList ds p := hA
    have hval0 : ∀ (j : Nat) t v, Try.f6.params[j]? = some t → args[j]? = some v → Value.okWide Try.prog W .any base t v := hval
    clear hA hval
    have hA := hA0
    have hval := hval0
    clear hA0 hval0
    rw [Try.params6] at hA hval
    obtain ⟨v0, vs0, d0, ds0, p0_, q0_, hargs, rfl, rfl, h0, r0_⟩ := trodAll_cons hA
    obtain ⟨v1, vs1, d1, ds1, p1_, q1_, rfl, rfl, rfl, h1, r1_⟩ := trodAll_cons r0_
    obtain ⟨rfl, rfl, rfl⟩ := trodAll_nil r1_
    obtain rfl : args = #[v0, v1] := by cases args; simp_all
    obtain ⟨a0, rfl, rfl, rfl, w0⟩ := open_int Try.underlying22 (hval 0 22 v0 rfl rfl) h0
    have b0 := bounds_u64 w0
    obtain ⟨a1, rfl, rfl, rfl, w1⟩ := open_int Try.underlying22 (hval 1 22 v1 rfl rfl) h1
    have b1 := bounds_u64 w1
    exact Real.meansL a0 a1 W (by omega) (by omega)

theorem proved : Rows.RealMeansSaid :=
  OpenClaim.holds_of_wide 6 Try.f6 rfl rfl rfl rfl rfl rfl rfl ⟨rfl, rfl, rfl, rfl, rfl⟩ rfl rfl rfl rfl rfl (by kernel_rfl) Try.func6 (by kernel_rfl)
    (of_decide_eq_true (by kernel_rfl)) (by unfold Func.isWrapper; first | (rw [if_pos (by decide +kernel)]; kernel_rfl) | (rw [if_neg (by decide +kernel)]; exact ⟨rfl, rfl⟩))
    (fun os started H enc _ => step os started H enc)
end Go.Proofs.Ytljinegonoomcaa.realMeans
