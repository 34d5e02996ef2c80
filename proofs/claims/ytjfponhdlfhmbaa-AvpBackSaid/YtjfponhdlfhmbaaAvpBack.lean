/-
  PROVED: the statement AvpBackSaid of the given rows: for every input the law AvpBack returns true, and every argument reads behind the call as it read before. No condition.
-/
import Derived.Test.YtjfponhdlfhmbaaFrame
import Derived.Test.YtjfponhdlfhmbaaFrame
import Derived.Test.YtjfponhdlfhmbaaBack1
import Derived.Test.YtjfponhdlfhmbaaOpen3
namespace Go.Proofs.Ytjfponhdlfhmbaa.avpBack
open Go.ChangeShapes Go.WideShapes Go.ChangeAt Go.RowKit
open Go.ChangeMaps (open_string shut_string)
set_option linter.unusedVariables false

theorem own : ownKnob Try.prog.godebug = none := by kernel_rfl
theorem laidOut : laidOutB Try.prog = true := by kernel_rfl
theorem reads : Try.f5.params.toList.all (fun t => Try.prog.readableRec t && decide (t < Try.prog.types.size)) = true := by kernel_rfl

set_option maxRecDepth 100000 in
theorem step (os : Os) (started : os.Started) (H : Type) (enc : TypeId × Value → H) :
    ReturnsInHanded {} Try.checked os 5 .any (Rows.avpBackSpec.pre6 enc Try.prog Try.f5 Rows.avpBackRow.domain false) (Rows.avpBackSpec.post enc Try.prog Try.f5 false true false false) := by
  refine Frame.lifted_sized (C := Try.checked) (F := 5) (fn := Try.f5) (s := Rows.avpBackSpec) (T := 4) own started (by kernel_rfl) Try.func5 laidOut (Frame.reads_of reads) rfl ?spec rfl Try.underlying4
    (ChangeSpec.witness6 (enc := enc) (C := Try.checked) false ⟨#[], #[.slice none 0 0, .slice none 0 0, .slice none 0 0], []⟩ 8 (by kernel_rfl) (by kernel_rfl) (by kernel_rfl) (by kernel_rfl)) ?walk
  case spec =>
    intro ds h
    rw [Try.params5] at h
    obtain ⟨_, _, _, rfl⟩ := Frame.len3 h
    rfl
  case walk =>
    intro W base args ds p hval hA hsz
    have hA0 : DataW.TrodAll enc Try.prog W 0 (fun _ => true) true Try.f5.params.toList args.toList ds p := hA
    have hval0 : ∀ (j : Nat) t v, Try.f5.params[j]? = some t → args[j]? = some v → Value.okWide Try.prog W .any base t v := hval
    clear hA hval
    have hA := hA0
    have hval := hval0
    clear hA0 hval0
    rw [Try.params5] at hA hval
    obtain ⟨v0, vs0, d0, ds0, p0_, q0_, hargs, rfl, rfl, h0, r0_⟩ := trodAll_cons hA
    obtain ⟨v1, vs1, d1, ds1, p1_, q1_, rfl, rfl, rfl, h1, r1_⟩ := trodAll_cons r0_
    obtain ⟨v2, vs2, d2, ds2, p2_, q2_, rfl, rfl, rfl, h2, r2_⟩ := trodAll_cons r1_
    obtain ⟨rfl, rfl, rfl⟩ := trodAll_nil r2_
    obtain rfl : args = #[v0, v1, v2] := by cases args; simp_all
    have o0 := (hval 0 22 v0 rfl rfl)
    have o1 := (hval 1 22 v1 rfl rfl)
    obtain ⟨p2, l2, c2, z2, rfl, r2, e2⟩ := Frame.open_row Try.underlying23 Try.underlying5 (by kernel_rfl) (hval 2 23 v2 rfl rfl) h2
    have q2 := Frame.row_len (P := Try.prog) hsz (j := 2) rfl rfl Try.underlying23 e2 r2
    rw [show Try.prog.bytesOf 5 = 1 from by kernel_rfl] at q2
    exact (by obtain ⟨al, g1, g2, g3⟩ := Open.attrs o0 h0; obtain ⟨bl, k1, k2, k3⟩ := Open.attrs o1 h1; obtain ⟨m1, m2, m3⟩ := Mem.isRow_reads r2; exact Avp.back v0 v1 _ al bl _ W g1 k1 m1 g2 k2 (g3 (Open.sz_each hsz (j := 0) rfl rfl)) (k3 (Open.sz_each hsz (j := 1) rfl rfl)) (fun x hx => by have := bounds_u8 (m3 x hx); omega) (by omega))

theorem proved : Rows.AvpBackSaid :=
  OpenClaim.holds_of_wide 5 Try.f5 rfl rfl rfl rfl rfl rfl rfl ⟨rfl, rfl, rfl, rfl, rfl⟩ rfl rfl rfl rfl rfl (by kernel_rfl) Try.func5 (by kernel_rfl)
    (of_decide_eq_true (by kernel_rfl)) (by unfold Func.isWrapper; first | (rw [if_pos (by decide +kernel)]; kernel_rfl) | (rw [if_neg (by decide +kernel)]; exact ⟨rfl, rfl⟩))
    (fun os started H enc _ => step os started H enc)
end Go.Proofs.Ytjfponhdlfhmbaa.avpBack
