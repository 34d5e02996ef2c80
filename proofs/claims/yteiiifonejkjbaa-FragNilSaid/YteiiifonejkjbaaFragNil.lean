/-
  PROVED: the statement FragNilSaid of the given rows: for every input the law FragNil returns true, and every argument reads behind the call as it read before. No condition.
-/
import Derived.Test.YteiiifonejkjbaaFrame
import Derived.Test.YteiiifonejkjbaaOpenF
import Derived.Test.YteiiifonejkjbaaNil
namespace Go.Proofs.Yteiiifonejkjbaa.fragNil
open Go.ChangeShapes Go.WideShapes Go.ChangeAt Go.RowKit
open Go.ChangeMaps (open_string shut_string)
set_option linter.unusedVariables false

theorem own : ownKnob Try.prog.godebug = none := by kernel_rfl
theorem laidOut : laidOutB Try.prog = true := by kernel_rfl
theorem reads : Try.f8.params.toList.all (fun t => Try.prog.readableRec t && decide (t < Try.prog.types.size)) = true := by kernel_rfl

set_option maxRecDepth 100000 in
theorem step (os : Os) (started : os.Started) (H : Type) (enc : TypeId × Value → H) :
    ReturnsInHanded {} Try.checked os 8 .any (Rows.fragNilSpec.pre6 enc Try.prog Try.f8 Rows.fragNilRow.domain false) (Rows.fragNilSpec.post enc Try.prog Try.f8 false true false false) := by
  refine Frame.lifted_sized (C := Try.checked) (F := 8) (fn := Try.f8) (s := Rows.fragNilSpec) (T := 4) own started (by kernel_rfl) Try.func8 laidOut (Frame.reads_of reads) rfl ?spec rfl Try.underlying4
    (ChangeSpec.witness6 (enc := enc) (C := Try.checked) false ⟨#[], #[.agg #[.int .u16 0, .slice none 0 0], .int .u8 0], []⟩ 8 (by kernel_rfl) (by kernel_rfl) (by kernel_rfl) (by kernel_rfl)) ?walk
  case spec =>
    intro ds h
    rw [Try.params8] at h
    obtain ⟨_, _, rfl⟩ := Frame.len2 h
    rfl
  case walk =>
    intro W base args ds p hval hA hsz
    have hA0 : DataW.TrodAll enc Try.prog W 0 (fun _ => true) true Try.f8.params.toList args.toList ds p := hA
    have hval0 : ∀ (j : Nat) t v, Try.f8.params[j]? = some t → args[j]? = some v → Value.okWide Try.prog W .any base t v := hval
    clear hA hval
    have hA := hA0
    have hval := hval0
    clear hA0 hval0
    rw [Try.params8] at hA hval
    obtain ⟨v0, vs0, d0, ds0, p0_, q0_, hargs, rfl, rfl, h0, r0_⟩ := trodAll_cons hA
    obtain ⟨v1, vs1, d1, ds1, p1_, q1_, rfl, rfl, rfl, h1, r1_⟩ := trodAll_cons r0_
    obtain ⟨rfl, rfl, rfl⟩ := trodAll_nil r1_
    obtain rfl : args = #[v0, v1] := by cases args; simp_all
    have o0 := (hval 0 32 v0 rfl rfl)
    obtain ⟨a1, rfl, rfl, rfl, w1⟩ := open_int Try.underlying5 (hval 1 5 v1 rfl rfl) h1
    have b1 := bounds_u8 w1
    exact by obtain ⟨s, u, xs, rfl, q1, q2, q3, q4⟩ := Open.message o0 h0; exact Bx.nil_ W s a1 u xs q3 (by have := q4 (Open.sz_each hsz (j := 0) rfl rfl); omega) q1 b1

theorem proved : Rows.FragNilSaid :=
  OpenClaim.holds_of_wide 8 Try.f8 rfl rfl rfl rfl rfl rfl rfl ⟨rfl, rfl, rfl, rfl, rfl⟩ rfl rfl rfl rfl rfl (by kernel_rfl) Try.func8 (by kernel_rfl)
    (of_decide_eq_true (by kernel_rfl)) (by unfold Func.isWrapper; first | (rw [if_pos (by decide +kernel)]; kernel_rfl) | (rw [if_neg (by decide +kernel)]; exact ⟨rfl, rfl⟩))
    (fun os started H enc _ => step os started H enc)
end Go.Proofs.Yteiiifonejkjbaa.fragNil
