/-
  PROVED: the statement FragPutsSaid of the given rows: for every input the law FragPuts returns true, and every argument reads behind the call as it read before. No condition.
-/
import Derived.Test.YteiiifonejkjbaaFrame
import Derived.Test.YteiiifonejkjbaaFrame
import Derived.Test.YteiiifonejkjbaaOpenF
import Derived.Test.YteiiifonejkjbaaPuts
namespace Go.Proofs.Yteiiifonejkjbaa.fragPuts
open Go.ChangeShapes Go.WideShapes Go.ChangeAt Go.RowKit
open Go.ChangeMaps (open_string shut_string)
set_option linter.unusedVariables false

theorem own : ownKnob Try.prog.godebug = none := by kernel_rfl
theorem laidOut : laidOutB Try.prog = true := by kernel_rfl
theorem reads : Try.f6.params.toList.all (fun t => Try.prog.readableRec t && decide (t < Try.prog.types.size)) = true := by kernel_rfl

set_option maxRecDepth 100000 in
theorem step (os : Os) (started : os.Started) (H : Type) (enc : TypeId × Value → H) :
    ReturnsInHanded {} Try.checked os 6 .any (Rows.fragPutsSpec.pre6 enc Try.prog Try.f6 Rows.fragPutsRow.domain false) (Rows.fragPutsSpec.post enc Try.prog Try.f6 false true false false) := by
  refine Frame.lifted_sized (C := Try.checked) (F := 6) (fn := Try.f6) (s := Rows.fragPutsSpec) (T := 4) own started (by kernel_rfl) Try.func6 laidOut (Frame.reads_of reads) rfl ?spec rfl Try.underlying4
    (ChangeSpec.witness6 (enc := enc) (C := Try.checked) false ⟨#[], #[.slice none 0 0], []⟩ 8 (by kernel_rfl) (by kernel_rfl) (by kernel_rfl) (by kernel_rfl)) ?walk
  case spec =>
    intro ds h
    rw [Try.params6] at h
    obtain ⟨_, rfl⟩ := Frame.len1 h
    rfl
  case walk =>
    intro W base args ds p hval hA hsz
    have hA0 : DataW.TrodAll enc Try.prog W 0 (fun _ => true) true Try.f6.params.toList args.toList ds p := hA
    have hval0 : ∀ (j : Nat) t v, Try.f6.params[j]? = some t → args[j]? = some v → Value.okWide Try.prog W .any base t v := hval
    clear hA hval
    have hA := hA0
    have hval := hval0
    clear hA0 hval0
    rw [Try.params6] at hA hval
    obtain ⟨v0, vs0, d0, ds0, p0_, q0_, hargs, rfl, rfl, h0, r0_⟩ := trodAll_cons hA
    obtain ⟨rfl, rfl, rfl⟩ := trodAll_nil r0_
    obtain rfl : args = #[v0] := by cases args; simp_all
    have o0 := (hval 0 35 v0 rfl rfl)
    exact by obtain ⟨al, q1, q2, q3⟩ := Open.pieces o0 h0; exact Rb.puts_ W _ al q1 q2 (q3 (Open.sz_each hsz (j := 0) rfl rfl))

theorem proved : Rows.FragPutsSaid :=
  OpenClaim.holds_of_wide 6 Try.f6 rfl rfl rfl rfl rfl rfl rfl ⟨rfl, rfl, rfl, rfl, rfl⟩ rfl rfl rfl rfl rfl (by kernel_rfl) Try.func6 (by kernel_rfl)
    (of_decide_eq_true (by kernel_rfl)) (by unfold Func.isWrapper; first | (rw [if_pos (by decide +kernel)]; kernel_rfl) | (rw [if_neg (by decide +kernel)]; exact ⟨rfl, rfl⟩))
    (fun os started H enc _ => step os started H enc)
end Go.Proofs.Yteiiifonejkjbaa.fragPuts
