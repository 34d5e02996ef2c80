/-
  PROVED: the statement MsgGetsSaid of the given rows: for every input the law MsgGets returns true, and every argument reads behind the call as it read before. No condition.
-/
import Derived.Test.YtcekkppjalipfaaFrame
import Derived.Test.YtcekkppjalipfaaFrame
import Derived.Test.YtcekkppjalipfaaGets1
namespace Go.Proofs.Ytcekkppjalipfaa.msgGets
open Go.ChangeShapes Go.WideShapes Go.ChangeAt Go.RowKit
open Go.ChangeMaps (open_string shut_string)
set_option linter.unusedVariables false

theorem own : ownKnob Try.prog.godebug = none := by kernel_rfl
theorem laidOut : laidOutB Try.prog = true := by kernel_rfl
theorem reads : Try.f8.params.toList.all (fun t => Try.prog.readableRec t && decide (t < Try.prog.types.size)) = true := by kernel_rfl

set_option maxRecDepth 100000 in
theorem step (os : Os) (started : os.Started) (H : Type) (enc : TypeId × Value → H) :
    ReturnsInHanded {} Try.checked os 8 .any (Rows.msgGetsSpec.pre6 enc Try.prog Try.f8 Rows.msgGetsRow.domain false) (Rows.msgGetsSpec.post enc Try.prog Try.f8 false true false false) := by
  refine Frame.lifted_sized (C := Try.checked) (F := 8) (fn := Try.f8) (s := Rows.msgGetsSpec) (T := 4) own started (by kernel_rfl) Try.func8 laidOut (Frame.reads_of reads) rfl ?spec rfl Try.underlying4
    (ChangeSpec.witness6 (enc := enc) (C := Try.checked) false ⟨#[], #[.slice none 0 0], []⟩ 8 (by kernel_rfl) (by kernel_rfl) (by kernel_rfl) (by kernel_rfl)) ?walk
  case spec =>
    intro ds h
    rw [Try.params8] at h
    obtain ⟨_, rfl⟩ := Frame.len1 h
    rfl
  case walk =>
    intro W base args ds p hval hA hsz
    have hA0 : DataW.TrodAll enc Try.prog W 0 (fun _ => true) true Try.f8.params.toList args.toList ds p := hA
    have hval0 : ∀ (j : Nat) t v, Try.f8.params[j]? = some t → args[j]? = some v → Value.okWide Try.prog W .any base t v := hval
    clear hA hval
    have hA := hA0
    have hval := hval0
    clear hA0 hval0
    rw [Try.params8] at hA hval
    obtain ⟨v0, vs0, d0, ds0, p0_, q0_, hargs, rfl, rfl, h0, r0_⟩ := trodAll_cons hA
    obtain ⟨rfl, rfl, rfl⟩ := trodAll_nil r0_
    obtain rfl : args = #[v0] := by cases args; simp_all
    obtain ⟨p0, l0, c0, z0, rfl, r0, e0⟩ := Frame.open_row Try.underlying26 Try.underlying5 (by kernel_rfl) (hval 0 26 v0 rfl rfl) h0
    have q0 := Frame.row_len (P := Try.prog) hsz (j := 0) rfl rfl Try.underlying26 e0 r0
    rw [show Try.prog.bytesOf 5 = 1 from by kernel_rfl] at q0
    exact by obtain ⟨h1, h2, h3⟩ := Mem.isRow_reads r0; exact Avp.gets _ _ W h1 (fun x hx => by have := bounds_u8 (h3 x hx); omega) (by omega)

theorem proved : Rows.MsgGetsSaid :=
  OpenClaim.holds_of_wide 8 Try.f8 rfl rfl rfl rfl rfl rfl rfl ⟨rfl, rfl, rfl, rfl, rfl⟩ rfl rfl rfl rfl rfl (by kernel_rfl) Try.func8 (by kernel_rfl)
    (of_decide_eq_true (by kernel_rfl)) (by unfold Func.isWrapper; first | (rw [if_pos (by decide +kernel)]; kernel_rfl) | (rw [if_neg (by decide +kernel)]; exact ⟨rfl, rfl⟩))
    (fun os started H enc _ => step os started H enc)
end Go.Proofs.Ytcekkppjalipfaa.msgGets
