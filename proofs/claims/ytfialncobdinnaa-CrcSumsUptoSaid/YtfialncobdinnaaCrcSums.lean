/-
  PROVED: the statement CrcSumsUptoSaid of the given rows: for every input of bulk at most the given bound the law CrcSums returns true, and every argument reads behind the call as it read before. No condition.
-/
import Derived.Test.YtfialncobdinnaaFrame
import Derived.Test.YtfialncobdinnaaLaws1
namespace Go.Proofs.Ytfialncobdinnaa.crcSums
open Go.ChangeShapes Go.WideShapes Go.ChangeAt Go.RowKit
open Go.ChangeMaps (open_string shut_string)
set_option linter.unusedVariables false

theorem own : ownKnob Try.prog.godebug = none := by kernel_rfl
theorem laidOut : laidOutB Try.prog = true := by kernel_rfl
theorem reads : Try.f3.params.toList.all (fun t => Try.prog.readableRec t && decide (t < Try.prog.types.size)) = true := by kernel_rfl

set_option maxRecDepth 100000 in
theorem step (os : Os) (started : os.Started) (H : Type) (enc : TypeId × Value → H) (J : Stop.Interp) :
    ReturnsInHanded {} Try.checked os 3 .any ((Rows.OpenSpec.upto Rows.crcSumsSpec).pre6 enc Try.prog Try.f3 Rows.crcSumsUptoRow.domain false) (((Rows.OpenSpec.upto Rows.crcSumsSpec).at J).post enc Try.prog Try.f3 false true false false) := by
  refine Frame.liftedUpto (C := Try.checked) (F := 3) (fn := Try.f3) (s := Rows.crcSumsSpec) (T := 4) own started (by kernel_rfl) Try.func3 laidOut (Frame.reads_of reads) rfl ?spec rfl Try.underlying4
    (OpenSpec.witness (enc := enc) (C := Try.checked) (s := Rows.OpenSpec.upto Rows.crcSumsSpec) (k := Rows.uptoSmall) rfl false ⟨#[], #[.slice none 0 0, .slice none 0 0], []⟩ 8 (by kernel_rfl) (by kernel_rfl) (by kernel_rfl)
      (x := ([.nil, .nil], [], [])) (by kernel_rfl) rfl (by kernel_rfl)) ?walk
  case spec =>
    intro ds h
    rw [Try.params3] at h
    obtain ⟨_, _, rfl⟩ := Frame.len2 h
    rfl
  case walk =>
    intro W base args ds p hval hA hk
    have hA0 : DataW.TrodAll enc Try.prog W 0 (fun _ => true) true Try.f3.params.toList args.toList ds p := hA
    have hval0 : ∀ (j : Nat) t v, Try.f3.params[j]? = some t → args[j]? = some v → Value.okWide Try.prog W .any base t v := hval
    clear hA hval
    have hA := hA0
    have hval := hval0
    clear hA0 hval0
    rw [Try.params3] at hA hval
    obtain ⟨v0, vs0, d0, ds0, p0_, q0_, hargs, rfl, rfl, h0, r0_⟩ := trodAll_cons hA
    obtain ⟨v1, vs1, d1, ds1, p1_, q1_, rfl, rfl, rfl, h1, r1_⟩ := trodAll_cons r0_
    obtain ⟨rfl, rfl, rfl⟩ := trodAll_nil r1_
    obtain rfl : args = #[v0, v1] := by cases args; simp_all
    obtain ⟨p0, l0, c0, z0, rfl, r0, e0⟩ := Frame.open_row Try.underlying22 Try.underlying5 (by kernel_rfl) (hval 0 22 v0 rfl rfl) h0
    obtain ⟨p1, l1, c1, z1, rfl, r1, e1⟩ := Frame.open_row Try.underlying22 Try.underlying5 (by kernel_rfl) (hval 1 22 v1 rfl rfl) h1
    have k0 := Frame.row_bulk e0 r0
    have k1 := Frame.row_bulk e1 r1
    have kk := of_decide_eq_true hk
    simp only [Rows.uptoBulkAll] at kk
    exact Laws.sums p0 p1 l0 c0 l1 c1 z0 z1 W r0 r1 (by omega) (by omega) (by omega)

theorem proved : Rows.CrcSumsUptoSaid :=
  OpenClaim.holds_of_cond 3 Try.f3 rfl rfl rfl rfl rfl rfl rfl ⟨rfl, rfl, rfl, rfl, rfl⟩ rfl rfl rfl rfl rfl (by kernel_rfl) Try.func3 (by kernel_rfl)
    (of_decide_eq_true (by kernel_rfl)) (by unfold Func.isWrapper; first | (rw [if_pos (by decide +kernel)]; kernel_rfl) | (rw [if_neg (by decide +kernel)]; exact ⟨rfl, rfl⟩))
    (fun os started H enc _ J => step os started H enc J)
end Go.Proofs.Ytfialncobdinnaa.crcSums
