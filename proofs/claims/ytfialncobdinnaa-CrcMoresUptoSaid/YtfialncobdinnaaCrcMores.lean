/-
  PROVED: the statement CrcMoresUptoSaid of the given rows: for every input of bulk at most the given bound the law CrcMores returns true, and every argument reads behind the call as it read before. No condition.
-/
import Derived.Test.YtfialncobdinnaaFrame
import Derived.Test.YtfialncobdinnaaLaws2
namespace Go.Proofs.Ytfialncobdinnaa.crcMores
open Go.ChangeShapes Go.WideShapes Go.ChangeAt Go.RowKit
open Go.ChangeMaps (open_string shut_string)
set_option linter.unusedVariables false

theorem own : ownKnob Try.prog.godebug = none := by kernel_rfl
theorem laidOut : laidOutB Try.prog = true := by kernel_rfl
theorem reads : Try.f4.params.toList.all (fun t => Try.prog.readableRec t && decide (t < Try.prog.types.size)) = true := by kernel_rfl

set_option maxRecDepth 100000 in
theorem step (os : Os) (started : os.Started) (H : Type) (enc : TypeId × Value → H) (J : Stop.Interp) :
    ReturnsInHanded {} Try.checked os 4 .any ((Rows.OpenSpec.upto Rows.crcMoresSpec).pre6 enc Try.prog Try.f4 Rows.crcMoresUptoRow.domain false) (((Rows.OpenSpec.upto Rows.crcMoresSpec).at J).post enc Try.prog Try.f4 false true false false) := by
  refine Frame.liftedUpto (C := Try.checked) (F := 4) (fn := Try.f4) (s := Rows.crcMoresSpec) (T := 4) own started (by kernel_rfl) Try.func4 laidOut (Frame.reads_of reads) rfl ?spec rfl Try.underlying4
    (OpenSpec.witness (enc := enc) (C := Try.checked) (s := Rows.OpenSpec.upto Rows.crcMoresSpec) (k := Rows.uptoSmall) rfl false ⟨#[], #[.int .u32 0, .slice none 0 0, .slice none 0 0], []⟩ 8 (by kernel_rfl) (by kernel_rfl) (by kernel_rfl)
      (x := ([.lit (.int .u32 0), .nil, .nil], [], [])) (by kernel_rfl) rfl (by kernel_rfl)) ?walk
  case spec =>
    intro ds h
    rw [Try.params4] at h
    obtain ⟨_, _, _, rfl⟩ := Frame.len3 h
    rfl
  case walk =>
    intro W base args ds p hval hA hk
    have hA0 : DataW.TrodAll enc Try.prog W 0 (fun _ => true) true Try.f4.params.toList args.toList ds p := hA
    have hval0 : ∀ (j : Nat) t v, Try.f4.params[j]? = some t → args[j]? = some v → Value.okWide Try.prog W .any base t v := hval
    clear hA hval
    have hA := hA0
    have hval := hval0
    clear hA0 hval0
    rw [Try.params4] at hA hval
    obtain ⟨v0, vs0, d0, ds0, p0_, q0_, hargs, rfl, rfl, h0, r0_⟩ := trodAll_cons hA
    obtain ⟨v1, vs1, d1, ds1, p1_, q1_, rfl, rfl, rfl, h1, r1_⟩ := trodAll_cons r0_
    obtain ⟨v2, vs2, d2, ds2, p2_, q2_, rfl, rfl, rfl, h2, r2_⟩ := trodAll_cons r1_
    obtain ⟨rfl, rfl, rfl⟩ := trodAll_nil r2_
    obtain rfl : args = #[v0, v1, v2] := by cases args; simp_all
    obtain ⟨a0, rfl, rfl, rfl, w0⟩ := open_int Try.underlying24 (hval 0 24 v0 rfl rfl) h0
    have b0 := bounds_u32 w0
    obtain ⟨p1, l1, c1, z1, rfl, r1, e1⟩ := Frame.open_row Try.underlying22 Try.underlying5 (by kernel_rfl) (hval 1 22 v1 rfl rfl) h1
    obtain ⟨p2, l2, c2, z2, rfl, r2, e2⟩ := Frame.open_row Try.underlying22 Try.underlying5 (by kernel_rfl) (hval 2 22 v2 rfl rfl) h2
    have k1 := Frame.row_bulk e1 r1
    have k2 := Frame.row_bulk e2 r2
    have kk := of_decide_eq_true hk
    simp only [Rows.uptoBulkAll] at kk
    exact Laws.mores a0 p1 p2 l1 c1 l2 c2 z1 z2 W b0 r1 r2 (by omega)

theorem proved : Rows.CrcMoresUptoSaid :=
  OpenClaim.holds_of_cond 4 Try.f4 rfl rfl rfl rfl rfl rfl rfl ⟨rfl, rfl, rfl, rfl, rfl⟩ rfl rfl rfl rfl rfl (by kernel_rfl) Try.func4 (by kernel_rfl)
    (of_decide_eq_true (by kernel_rfl)) (by unfold Func.isWrapper; first | (rw [if_pos (by decide +kernel)]; kernel_rfl) | (rw [if_neg (by decide +kernel)]; exact ⟨rfl, rfl⟩))
    (fun os started H enc _ J => step os started H enc J)
end Go.Proofs.Ytfialncobdinnaa.crcMores
