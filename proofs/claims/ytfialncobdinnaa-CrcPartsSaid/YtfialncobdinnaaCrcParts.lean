/-
  PROVED: the statement CrcPartsSaid of the given rows: for every input the law CrcParts returns true, and every argument reads behind the call as it read before. No condition.
-/
import Derived.Test.YtfialncobdinnaaFrame
import Derived.Test.YtfialncobdinnaaFrame
import Derived.Test.YtfialncobdinnaaParts2
namespace Go.Proofs.Ytfialncobdinnaa.crcParts
open Go.ChangeShapes Go.WideShapes Go.ChangeAt Go.RowKit
open Go.ChangeMaps (open_string shut_string)
set_option linter.unusedVariables false

theorem own : ownKnob Try.prog.godebug = none := by kernel_rfl
theorem laidOut : laidOutB Try.prog = true := by kernel_rfl
theorem reads : Try.f6.params.toList.all (fun t => Try.prog.readableRec t && decide (t < Try.prog.types.size)) = true := by kernel_rfl

set_option maxRecDepth 100000 in
theorem step (os : Os) (started : os.Started) (H : Type) (enc : TypeId × Value → H) :
    ReturnsInHanded {} Try.checked os 6 .any (Rows.crcPartsSpec.pre6 enc Try.prog Try.f6 Rows.crcPartsRow.domain false) (Rows.crcPartsSpec.post enc Try.prog Try.f6 false true false false) := by
  refine Frame.lifted_sized (C := Try.checked) (F := 6) (fn := Try.f6) (s := Rows.crcPartsSpec) (T := 4) own started (by kernel_rfl) Try.func6 laidOut (Frame.reads_of reads) rfl ?spec rfl Try.underlying4
    (ChangeSpec.witness6 (enc := enc) (C := Try.checked) false ⟨#[], #[.slice none 0 0, .slice none 0 0, .slice none 0 0], []⟩ 8 (by kernel_rfl) (by kernel_rfl) (by kernel_rfl) (by kernel_rfl)) ?walk
  case spec =>
    intro ds h
    rw [Try.params6] at h
    obtain ⟨_, _, _, rfl⟩ := Frame.len3 h
    rfl
  case walk =>
    intro W base args ds p hval hA hsz
    have hA0 : DataW.TrodAll enc Try.prog W 0 (fun _ => true) true Try.f6.params.toList args.toList ds p := hA
    have hval0 : ∀ (j : Nat) t v, Try.f6.params[j]? = some t → args[j]? = some v → Value.okWide Try.prog W .any base t v := hval
    clear hA hval
    have hA := hA0
    have hval := hval0
    clear hA0 hval0
    rw [Try.params6] at hA hval
    obtain ⟨v0, vs0, d0, ds0, p0_, q0_, hargs, rfl, rfl, h0, r0_⟩ := trodAll_cons hA
    obtain ⟨v1, vs1, d1, ds1, p1_, q1_, rfl, rfl, rfl, h1, r1_⟩ := trodAll_cons r0_
    obtain ⟨v2, vs2, d2, ds2, p2_, q2_, rfl, rfl, rfl, h2, r2_⟩ := trodAll_cons r1_
    obtain ⟨rfl, rfl, rfl⟩ := trodAll_nil r2_
    obtain rfl : args = #[v0, v1, v2] := by cases args; simp_all
    obtain ⟨p0, l0, c0, z0, rfl, r0, e0⟩ := Frame.open_row Try.underlying22 Try.underlying5 (by kernel_rfl) (hval 0 22 v0 rfl rfl) h0
    obtain ⟨p1, l1, c1, z1, rfl, r1, e1⟩ := Frame.open_row Try.underlying22 Try.underlying5 (by kernel_rfl) (hval 1 22 v1 rfl rfl) h1
    obtain ⟨p2, l2, c2, z2, rfl, r2, e2⟩ := Frame.open_row Try.underlying22 Try.underlying5 (by kernel_rfl) (hval 2 22 v2 rfl rfl) h2
    have q0 := Frame.row_len (P := Try.prog) hsz (j := 0) rfl rfl Try.underlying22 e0 r0
    rw [show Try.prog.bytesOf 5 = 1 from by kernel_rfl] at q0
    have q1 := Frame.row_len (P := Try.prog) hsz (j := 1) rfl rfl Try.underlying22 e1 r1
    rw [show Try.prog.bytesOf 5 = 1 from by kernel_rfl] at q1
    have q2 := Frame.row_len (P := Try.prog) hsz (j := 2) rfl rfl Try.underlying22 e2 r2
    rw [show Try.prog.bytesOf 5 = 1 from by kernel_rfl] at q2
    exact (by obtain ⟨g1, g2, g3⟩ := Mem.isRow_reads r0; obtain ⟨k1, k2, k3⟩ := Mem.isRow_reads r1; obtain ⟨m1, m2, m3⟩ := Mem.isRow_reads r2; exact Laws.parts _ _ _ _ _ _ W g1 k1 m1 (fun x hx => bounds_u8 (g3 x hx)) (fun x hx => bounds_u8 (k3 x hx)) (fun x hx => bounds_u8 (m3 x hx)) (by omega) (by omega) (by omega))

theorem proved : Rows.CrcPartsSaid :=
  OpenClaim.holds_of_wide 6 Try.f6 rfl rfl rfl rfl rfl rfl rfl ⟨rfl, rfl, rfl, rfl, rfl⟩ rfl rfl rfl rfl rfl (by kernel_rfl) Try.func6 (by kernel_rfl)
    (of_decide_eq_true (by kernel_rfl)) (by unfold Func.isWrapper; first | (rw [if_pos (by decide +kernel)]; kernel_rfl) | (rw [if_neg (by decide +kernel)]; exact ⟨rfl, rfl⟩))
    (fun os started H enc _ => step os started H enc)
end Go.Proofs.Ytfialncobdinnaa.crcParts
