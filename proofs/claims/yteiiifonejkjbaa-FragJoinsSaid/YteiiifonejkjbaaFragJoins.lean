/-
  PROVED: the statement FragJoinsSaid of the given rows: for every input the law FragJoins returns true, and every argument reads behind the call as it read before. No condition.
-/
import Derived.Test.YteiiifonejkjbaaFrame
import Derived.Test.YteiiifonejkjbaaOpenF
import Derived.Test.YteiiifonejkjbaaJoins
namespace Go.Proofs.Yteiiifonejkjbaa.fragJoins
open Go.ChangeShapes Go.WideShapes Go.ChangeAt Go.RowKit
open Go.ChangeMaps (open_string shut_string)
set_option linter.unusedVariables false

theorem own : ownKnob Try.prog.godebug = none := by kernel_rfl
theorem laidOut : laidOutB Try.prog = true := by kernel_rfl
theorem reads : Try.f4.params.toList.all (fun t => Try.prog.readableRec t && decide (t < Try.prog.types.size)) = true := by kernel_rfl

set_option maxRecDepth 100000 in
theorem step (os : Os) (started : os.Started) (H : Type) (enc : TypeId × Value → H) :
    ReturnsInHanded {} Try.checked os 4 .any (Rows.fragJoinsSpec.pre6 enc Try.prog Try.f4 Rows.fragJoinsRow.domain false) (Rows.fragJoinsSpec.post enc Try.prog Try.f4 false true false false) := by
  refine Frame.lifted_sized (C := Try.checked) (F := 4) (fn := Try.f4) (s := Rows.fragJoinsSpec) (T := 4) own started (by kernel_rfl) Try.func4 laidOut (Frame.reads_of reads) rfl ?spec rfl Try.underlying4
    (ChangeSpec.witness6 (enc := enc) (C := Try.checked) false ⟨#[], #[.agg #[.int .u16 0, .slice none 0 0], .bool false, .int .i64 0], []⟩ 8 (by kernel_rfl) (by kernel_rfl) (by kernel_rfl) (by kernel_rfl)) ?walk
  case spec =>
    intro ds h
    rw [Try.params4] at h
    obtain ⟨_, _, _, rfl⟩ := Frame.len3 h
    rfl
  case walk =>
    intro W base args ds p hval hA hsz
    have hA0 : DataW.TrodAll enc Try.prog W 0 (fun _ => true) true Try.f4.params.toList args.toList ds p := hA
    have hval0 : ∀ (j : Nat) t v, Try.f4.params[j]? = some t → args[j]? = some v → Value.okWide Try.prog W .any base t v := hval
    clear hA hval
    have hA := hA0
    have hval := hval0
    clear hA0 hval0
    rw [Try.params4] at hA hval
    obtain ⟨v0, vs0, d0, ds0, p0_, q0_, hargs, rfl, rfl, h0, r0_⟩ := trodAll_cons hA
    obtain ⟨v1, vs1, d1, ds1, p1_, q1_, rfl, rfl, rfl, h1, r1_⟩ := trodAll_cons r0_
    obtain ⟨v2, vs2, d2, ds2, p2_, q2_, rfl, rfl, rfl, h2, r2_⟩ := trodAll_cons r1_
    obtain ⟨rfl, rfl, rfl⟩ := trodAll_nil r2_
    obtain rfl : args = #[v0, v1, v2] := by cases args; simp_all
    have o0 := (hval 0 32 v0 rfl rfl)
    obtain ⟨a1, rfl, rfl, rfl⟩ := open_bool Try.underlying4 (hval 1 4 v1 rfl rfl) h1
    obtain ⟨a2, rfl, rfl, rfl, w2⟩ := open_int Try.underlying3 (hval 2 3 v2 rfl rfl) h2
    have b2 := bounds_i64 w2
    exact by obtain ⟨s, u, xs, rfl, q1, q2, q3, q4⟩ := Open.message o0 h0; exact Chunk.joins W s a2 u xs a1 q3 (by have := q4 (Open.sz_each hsz (j := 0) rfl rfl); omega) q1 b2

theorem proved : Rows.FragJoinsSaid :=
  OpenClaim.holds_of_wide 4 Try.f4 rfl rfl rfl rfl rfl rfl rfl ⟨rfl, rfl, rfl, rfl, rfl⟩ rfl rfl rfl rfl rfl (by kernel_rfl) Try.func4 (by kernel_rfl)
    (of_decide_eq_true (by kernel_rfl)) (by unfold Func.isWrapper; first | (rw [if_pos (by decide +kernel)]; kernel_rfl) | (rw [if_neg (by decide +kernel)]; exact ⟨rfl, rfl⟩))
    (fun os started H enc _ => step os started H enc)
end Go.Proofs.Yteiiifonejkjbaa.fragJoins
