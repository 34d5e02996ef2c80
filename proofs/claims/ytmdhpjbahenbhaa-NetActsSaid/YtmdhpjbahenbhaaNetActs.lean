/-
  PROVED: the statement NetActsSaid of the given rows: for every input the law NetActs returns true, and every argument reads behind the call as it read before. No condition.
-/
import Derived.Test.YtmdhpjbahenbhaaFrame
import Derived.Test.YtmdhpjbahenbhaaActs1
namespace Go.Proofs.Ytmdhpjbahenbhaa.netActs
open Go.ChangeShapes Go.WideShapes Go.ChangeAt Go.RowKit
open Go.ChangeMaps (open_string shut_string)
set_option linter.unusedVariables false

theorem own : ownKnob Try.prog.godebug = none := by kernel_rfl
theorem laidOut : laidOutB Try.prog = true := by kernel_rfl
theorem reads : Try.f5.params.toList.all (fun t => Try.prog.readableRec t && decide (t < Try.prog.types.size)) = true := by kernel_rfl

set_option maxRecDepth 100000 in
theorem step (os : Os) (started : os.Started) (H : Type) (enc : TypeId × Value → H) :
    ReturnsInHanded {} Try.checked os 5 .any (Rows.netActsSpec.pre6 enc Try.prog Try.f5 Rows.netActsRow.domain false) (Rows.netActsSpec.post enc Try.prog Try.f5 false true false false) := by
  refine Frame.lifted_sized (C := Try.checked) (F := 5) (fn := Try.f5) (s := Rows.netActsSpec) (T := 4) own started (by kernel_rfl) Try.func5 laidOut (Frame.reads_of reads) rfl ?spec rfl Try.underlying4
    (ChangeSpec.witness6 (enc := enc) (C := Try.checked) false ⟨#[], #[.int .i64 0, .slice none 0 0], []⟩ 8 (by kernel_rfl) (by kernel_rfl) (by kernel_rfl) (by kernel_rfl)) ?walk
  case spec =>
    intro ds h
    rw [Try.params5] at h
    obtain ⟨_, _, rfl⟩ := Frame.len2 h
    rfl
  case walk =>
    intro W base args ds p hval hA hsz
    have hA0 : DataW.TrodAll enc Try.prog W 0 (fun _ => true) true Try.f5.params.toList args.toList ds p := hA
    have hval0 : ∀ (j : Nat) t v, Try.f5.params[j]? = some t → args[j]? = some v → Value.okWide Try.prog W .any base t v := hval
    clear hA hval
    have hA := hA0
    have hval := hval0
    clear hA0 hval0
    rw [Try.params5] at hA hval
    obtain ⟨v0, vs0, d0, ds0, p0_, q0_, hargs, rfl, rfl, h0, r0_⟩ := trodAll_cons hA
    obtain ⟨v1, vs1, d1, ds1, p1_, q1_, rfl, rfl, rfl, h1, r1_⟩ := trodAll_cons r0_
    obtain ⟨rfl, rfl, rfl⟩ := trodAll_nil r1_
    obtain rfl : args = #[v0, v1] := by cases args; simp_all
    obtain ⟨a0, rfl, rfl, rfl, w0⟩ := open_int Try.underlying3 (hval 0 3 v0 rfl rfl) h0
    have b0 := bounds_i64 w0
    have o1 := (hval 1 42 v1 rfl rfl)
    exact by obtain ⟨p, n, c, zs, rfl, hz⟩ := Open.acts o1 h1 (Open.sz_each hsz (j := 1) rfl rfl); exact Net.acts_ a0 p n c zs W hz

theorem proved : Rows.NetActsSaid :=
  OpenClaim.holds_of_wide 5 Try.f5 rfl rfl rfl rfl rfl rfl rfl ⟨rfl, rfl, rfl, rfl, rfl⟩ rfl rfl rfl rfl rfl (by kernel_rfl) Try.func5 (by kernel_rfl)
    (of_decide_eq_true (by kernel_rfl)) (by unfold Func.isWrapper; first | (rw [if_pos (by decide +kernel)]; kernel_rfl) | (rw [if_neg (by decide +kernel)]; exact ⟨rfl, rfl⟩))
    (fun os started H enc _ => step os started H enc)
end Go.Proofs.Ytmdhpjbahenbhaa.netActs
