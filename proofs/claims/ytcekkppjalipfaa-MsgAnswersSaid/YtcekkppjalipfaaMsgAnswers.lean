/-
  PROVED: the statement MsgAnswersSaid of the given rows: for every input the law MsgAnswers returns true, and every argument reads behind the call as it read before. No condition.
-/
import Derived.Test.YtcekkppjalipfaaFrame
import Derived.Test.YtcekkppjalipfaaFrame
import Derived.Test.YtcekkppjalipfaaAns3
namespace Go.Proofs.Ytcekkppjalipfaa.msgAnswers
open Go.ChangeShapes Go.WideShapes Go.ChangeAt Go.RowKit
open Go.ChangeMaps (open_string shut_string)
set_option linter.unusedVariables false

theorem own : ownKnob Try.prog.godebug = none := by kernel_rfl
theorem laidOut : laidOutB Try.prog = true := by kernel_rfl
theorem reads : Try.f7.params.toList.all (fun t => Try.prog.readableRec t && decide (t < Try.prog.types.size)) = true := by kernel_rfl

set_option maxRecDepth 100000 in
theorem step (os : Os) (started : os.Started) (H : Type) (enc : TypeId × Value → H) :
    ReturnsInHanded {} Try.checked os 7 .any (Rows.msgAnswersSpec.pre6 enc Try.prog Try.f7 Rows.msgAnswersRow.domain false) (Rows.msgAnswersSpec.post enc Try.prog Try.f7 false true false false) := by
  refine Frame.lifted_sized (C := Try.checked) (F := 7) (fn := Try.f7) (s := Rows.msgAnswersSpec) (T := 4) own started (by kernel_rfl) Try.func7 laidOut (Frame.reads_of reads) rfl ?spec rfl Try.underlying4
    (ChangeSpec.witness6 (enc := enc) (C := Try.checked) false ⟨#[], #[.agg #[.bool false, .bool false, .bool false, .bool false, .int .u32 0, .int .u32 0, .int .u32 0, .int .u32 0, .slice none 0 0], .int .i64 0, .string .empty, .string .empty, .slice none 0 0], []⟩ 8 (by kernel_rfl) (by kernel_rfl) (by kernel_rfl) (by kernel_rfl)) ?walk
  case spec =>
    intro ds h
    rw [Try.params7] at h
    obtain ⟨_, _, _, _, _, rfl⟩ := Frame.len5 h
    rfl
  case walk =>
    intro W base args ds p hval hA hsz
    have hA0 : DataW.TrodAll enc Try.prog W 0 (fun _ => true) true Try.f7.params.toList args.toList ds p := hA
    have hval0 : ∀ (j : Nat) t v, Try.f7.params[j]? = some t → args[j]? = some v → Value.okWide Try.prog W .any base t v := hval
    clear hA hval
    have hA := hA0
    have hval := hval0
    clear hA0 hval0
    rw [Try.params7] at hA hval
    obtain ⟨v0, vs0, d0, ds0, p0_, q0_, hargs, rfl, rfl, h0, r0_⟩ := trodAll_cons hA
    obtain ⟨v1, vs1, d1, ds1, p1_, q1_, rfl, rfl, rfl, h1, r1_⟩ := trodAll_cons r0_
    obtain ⟨v2, vs2, d2, ds2, p2_, q2_, rfl, rfl, rfl, h2, r2_⟩ := trodAll_cons r1_
    obtain ⟨v3, vs3, d3, ds3, p3_, q3_, rfl, rfl, rfl, h3, r3_⟩ := trodAll_cons r2_
    obtain ⟨v4, vs4, d4, ds4, p4_, q4_, rfl, rfl, rfl, h4, r4_⟩ := trodAll_cons r3_
    obtain ⟨rfl, rfl, rfl⟩ := trodAll_nil r4_
    obtain rfl : args = #[v0, v1, v2, v3, v4] := by cases args; simp_all
    have o0 := (hval 0 25 v0 rfl rfl)
    obtain ⟨a1, rfl, rfl, rfl, w1⟩ := open_int Try.underlying3 (hval 1 3 v1 rfl rfl) h1
    have b1 := bounds_i64 w1
    obtain ⟨a2, rfl, rfl, rfl, s2⟩ := open_string Try.underlying9 (hval 2 9 v2 rfl rfl) h2
    obtain ⟨a3, rfl, rfl, rfl, s3⟩ := open_string Try.underlying9 (hval 3 9 v3 rfl rfl) h3
    have o4 := (hval 4 23 v4 rfl rfl)
    exact by obtain ⟨m, p, c, rfl, h1, h2, h3⟩ := Open.msg o0 h0; obtain ⟨al, k1, k2, k3⟩ := Open.attrs o4 h4; obtain ⟨pm, cm, rfl, _, _⟩ := k1.shape; exact Avp.answersAll m p c a1 a2 a3 pm cm al W h1 h2 (h3 (Open.sz_each hsz (j := 0) rfl rfl)) s2 s3 k1 k2 (k3 (Open.sz_each hsz (j := 4) rfl rfl)) b1 (Avp.str_reach a2 (Open.sz_each hsz (j := 2) rfl rfl)) (Avp.str_reach a3 (Open.sz_each hsz (j := 3) rfl rfl))

theorem proved : Rows.MsgAnswersSaid :=
  OpenClaim.holds_of_wide 7 Try.f7 rfl rfl rfl rfl rfl rfl rfl ⟨rfl, rfl, rfl, rfl, rfl⟩ rfl rfl rfl rfl rfl (by kernel_rfl) Try.func7 (by kernel_rfl)
    (of_decide_eq_true (by kernel_rfl)) (by unfold Func.isWrapper; first | (rw [if_pos (by decide +kernel)]; kernel_rfl) | (rw [if_neg (by decide +kernel)]; exact ⟨rfl, rfl⟩))
    (fun os started H enc _ => step os started H enc)
end Go.Proofs.Ytcekkppjalipfaa.msgAnswers
