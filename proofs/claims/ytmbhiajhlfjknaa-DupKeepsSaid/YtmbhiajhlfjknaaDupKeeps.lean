/-
  PROVED: the statement DupKeepsSaid of the given rows: for every input the law DupKeeps returns true, and every argument reads behind the call as it read before. No condition.
-/
import Derived.Test.YtmbhiajhlfjknaaFrame
import Derived.Test.YtmbhiajhlfjknaaKeep1
namespace Go.Proofs.Ytmbhiajhlfjknaa.dupKeeps
open Go.ChangeShapes Go.WideShapes Go.ChangeAt Go.RowKit
open Go.ChangeMaps (open_string shut_string)
set_option linter.unusedVariables false

theorem own : ownKnob Try.prog.godebug = none := by kernel_rfl
theorem laidOut : laidOutB Try.prog = true := by kernel_rfl
theorem reads : Try.f3.params.toList.all (fun t => Try.prog.readableRec t && decide (t < Try.prog.types.size)) = true := by kernel_rfl

set_option maxRecDepth 100000 in
theorem step (os : Os) (started : os.Started) (H : Type) (enc : TypeId × Value → H) :
    ReturnsInHanded {} Try.checked os 3 .any (Rows.dupKeepsSpec.pre6 enc Try.prog Try.f3 Rows.dupKeepsRow.domain false) (Rows.dupKeepsSpec.post enc Try.prog Try.f3 false true false false) := by
  refine Frame.lifted_sized (C := Try.checked) (F := 3) (fn := Try.f3) (s := Rows.dupKeepsSpec) (T := 4) own started (by kernel_rfl) Try.func3 laidOut (Frame.reads_of reads) rfl ?spec rfl Try.underlying4
    (ChangeSpec.witness6 (enc := enc) (C := Try.checked) false ⟨#[], #[.int .u16 0, .int .u16 0, .int .u16 0, .string .empty, .int .u32 0, .slice none 0 0, .slice none 0 0], []⟩ 8 (by kernel_rfl) (by kernel_rfl) (by kernel_rfl) (by kernel_rfl)) ?walk
  case spec =>
    intro ds h
    rw [Try.params3] at h
    obtain ⟨_, _, _, _, _, _, _, rfl⟩ := Frame.len7 h
    rfl
  case walk =>
    intro W base args ds p hval hA hsz
    have hA0 : DataW.TrodAll enc Try.prog W 0 (fun _ => true) true Try.f3.params.toList args.toList ds p := hA
    have hval0 : ∀ (j : Nat) t v, Try.f3.params[j]? = some t → args[j]? = some v → Value.okWide Try.prog W .any base t v := hval
    clear hA hval
    have hA := hA0
    have hval := hval0
    clear hA0 hval0
    rw [Try.params3] at hA hval
    obtain ⟨v0, vs0, d0, ds0, p0_, q0_, hargs, rfl, rfl, h0, r0_⟩ := trodAll_cons hA
    obtain ⟨v1, vs1, d1, ds1, p1_, q1_, rfl, rfl, rfl, h1, r1_⟩ := trodAll_cons r0_
    obtain ⟨v2, vs2, d2, ds2, p2_, q2_, rfl, rfl, rfl, h2, r2_⟩ := trodAll_cons r1_
    obtain ⟨v3, vs3, d3, ds3, p3_, q3_, rfl, rfl, rfl, h3, r3_⟩ := trodAll_cons r2_
    obtain ⟨v4, vs4, d4, ds4, p4_, q4_, rfl, rfl, rfl, h4, r4_⟩ := trodAll_cons r3_
    obtain ⟨v5, vs5, d5, ds5, p5_, q5_, rfl, rfl, rfl, h5, r5_⟩ := trodAll_cons r4_
    obtain ⟨v6, vs6, d6, ds6, p6_, q6_, rfl, rfl, rfl, h6, r6_⟩ := trodAll_cons r5_
    obtain ⟨rfl, rfl, rfl⟩ := trodAll_nil r6_
    obtain rfl : args = #[v0, v1, v2, v3, v4, v5, v6] := by cases args; simp_all
    obtain ⟨a0, rfl, rfl, rfl, w0⟩ := open_int Try.underlying22 (hval 0 22 v0 rfl rfl) h0
    have b0 := bounds_u16 w0
    obtain ⟨a1, rfl, rfl, rfl, w1⟩ := open_int Try.underlying22 (hval 1 22 v1 rfl rfl) h1
    have b1 := bounds_u16 w1
    obtain ⟨a2, rfl, rfl, rfl, w2⟩ := open_int Try.underlying22 (hval 2 22 v2 rfl rfl) h2
    have b2 := bounds_u16 w2
    obtain ⟨a3, rfl, rfl, rfl, s3⟩ := open_string Try.underlying9 (hval 3 9 v3 rfl rfl) h3
    obtain ⟨a4, rfl, rfl, rfl, w4⟩ := open_int Try.underlying23 (hval 4 23 v4 rfl rfl) h4
    have b4 := bounds_u32 w4
    obtain ⟨p5, l5, c5, z5, rfl, r5, e5⟩ := Frame.open_row Try.underlying24 Try.underlying5 (by kernel_rfl) (hval 5 24 v5 rfl rfl) h5
    obtain ⟨p6, l6, c6, z6, rfl, r6, e6⟩ := Frame.open_row Try.underlying24 Try.underlying5 (by kernel_rfl) (hval 6 24 v6 rfl rfl) h6
    have q5 := Frame.row_len (P := Try.prog) hsz (j := 5) rfl rfl Try.underlying24 e5 r5
    rw [show Try.prog.bytesOf 5 = 1 from by kernel_rfl] at q5
    have q6 := Frame.row_len (P := Try.prog) hsz (j := 6) rfl rfl Try.underlying24 e6 r6
    rw [show Try.prog.bytesOf 5 = 1 from by kernel_rfl] at q6
    exact by obtain ⟨h1, h2, _⟩ := Mem.isRow_reads r5; obtain ⟨k1, k2, _⟩ := Mem.isRow_reads r6; obtain ⟨xs, hxs⟩ : ∃ xs, z5.take l5 = xs := ⟨_, rfl⟩; obtain ⟨ys, hys⟩ : ∃ ys, z6.take l6 = ys := ⟨_, rfl⟩; rw [hxs] at h1 h2; rw [hys] at k1 k2; exact Dup.keeps_ a0 a1 a2 a3 a4 _ _ _ _ _ _ xs ys W (by omega) (by omega) (by omega) (by omega) h1 k1 (by omega) (by omega) (by have := sized_string hsz (j := 3) (t := 9) rfl rfl; rw [show reachBytes = 140737488351232 from rfl] at this; rw [show a3.data.toList.length = a3.size from Array.length_toList] at this; omega)

theorem proved : Rows.DupKeepsSaid :=
  OpenClaim.holds_of_wide 3 Try.f3 rfl rfl rfl rfl rfl rfl rfl ⟨rfl, rfl, rfl, rfl, rfl⟩ rfl rfl rfl rfl rfl (by kernel_rfl) Try.func3 (by kernel_rfl)
    (of_decide_eq_true (by kernel_rfl)) (by unfold Func.isWrapper; first | (rw [if_pos (by decide +kernel)]; kernel_rfl) | (rw [if_neg (by decide +kernel)]; exact ⟨rfl, rfl⟩))
    (fun os started H enc _ => step os started H enc)
end Go.Proofs.Ytmbhiajhlfjknaa.dupKeeps
