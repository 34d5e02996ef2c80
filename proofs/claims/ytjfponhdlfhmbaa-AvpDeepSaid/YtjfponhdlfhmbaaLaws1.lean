/-
  Contract: answers. The laws AvpPuts and AvpGets: the walks.
-/
import Derived.Test.YtjfponhdlfhmbaaPut3
import Derived.Test.YtjfponhdlfhmbaaGet4
import Derived.Test.YtjfponhdlfhmbaaOwn1
import Derived.Lib.SlBytesConst
namespace Go.Proofs.Ytjfponhdlfhmbaa.Avp
open Go.RowKit Mem Cells Avps Wire Ops
set_option linter.unusedVariables false
set_option linter.unusedSimpArgs false

theorem readsL_one {w : World} {g : Nat} {a : A} {p : Option Addr} {c : Nat} (h : At w g 41 (row a (.slice p a.data.length c)).toArray) (hd : Reads .u8 w (.slice p a.data.length c) a.data) : ReadsL w (.slice (some ⟨g, 0, none⟩) 1 1) [a] := by
  refine ⟨some ⟨g, 0, none⟩, 1, [(a, .slice p a.data.length c)], rfl, by simp, by simp [maxLen], (fun h => by cases h), rfl, ?_, fun _ => ⟨g, 0, rfl, h.lt, fun j hj => ?_⟩⟩
  · intro z hz
    rw [List.mem_singleton] at hz
    subst hz
    exact hd
  · rw [Nat.zero_add, h.cell j, flat_one]
    simp
def ansA : A := ⟨263, 0, true, false, [97, 98]⟩
theorem ansPut : putOf [ansA] = ([0, 0, 1, 7, 64, 0, 0, 10, 97, 98, 0, 0], 0) := by decide +kernel
theorem ansStr : (strOfNums [0, 0, 1, 7, 64, 0, 0, 10, 97, 98, 0, 0]).toList = [0, 0, 1, 7, 64, 0, 0, 10, 97, 98, 0, 0] := by decide +kernel

set_option maxRecDepth 100000 in
set_option maxHeartbeats 400000 in
theorem answers (w : World) : Calls Try.prog 11 #[] w fun e w' => e = .returned (.bool true) ∧ Below w.heap.size w w' := by
  have h1 := (Below.refl w.heap.size w).alloc (Nat.le_refl _) (.cells #[.int .u8 97, .int .u8 98] 5 (2, 3))
  have hd : Reads .u8 (w.alloc (.cells #[.int .u8 97, .int .u8 98] 5 (2, 3))) (.slice (some ⟨w.heap.size, 0, none⟩) 2 2) [97, 98] := Reads.alloc .u8 w [97, 98] 5 (2, 3) 2 (by simp) (by simp [maxLen])
  have er : (row ansA (.slice (some ⟨w.heap.size, 0, none⟩) 2 2)).toArray = #[.int .u32 263, .int .u32 0, .bool true, .bool false, .slice (some ⟨w.heap.size, 0, none⟩) 2 2] := rfl
  have h2 := (Below.refl (w.alloc (.cells #[.int .u8 97, .int .u8 98] 5 (2, 3))).heap.size (w.alloc (.cells #[.int .u8 97, .int .u8 98] 5 (2, 3)))).alloc (Nat.le_refl _) (.cells #[.int .u32 263, .int .u32 0, .bool true, .bool false, .slice (some ⟨w.heap.size, 0, none⟩) 2 2] 41)
  have hL := readsL_one (a := ansA) (er ▸ At.new1 w (.cells #[.int .u8 97, .int .u8 98] 5 (2, 3)) 41 (row ansA (.slice (some ⟨w.heap.size, 0, none⟩) 2 2)).toArray) (er ▸ hd.below h2)
  have hok : ∀ a ∈ [ansA], a.ok ∧ a.data.length ≤ 140737488355300 := by
    intro a ha
    rw [List.mem_singleton] at ha
    subst ha
    refine ⟨⟨by decide, by decide, by decide⟩, by decide⟩
  have hb := h1.trans (h2.mono h1.size)
  have PA := Lib.hid (avpPut (.slice (some ⟨w.heap.size + 1, 0, none⟩) 1 1) [ansA] _ hL hok)
  have HB := Lib.hid hb
  clear h1 h2 hd hL hok hb er
  have kc := Go.Lib.run_convert_bytes_const (P := Try.prog) w 23 5 #[.int .u8 97, .int .u8 98] 2 2 Try.underlying23 Try.underlying5
  simp only [List.size_toArray, List.length_cons, List.length_nil, Nat.zero_add, Nat.reduceAdd] at kc
  have ks := ansStr
  go_enter Try.func11, Try.ntmps11
  go_wp2_with (go_at_call 8; go_must (refine PA.out.mono ?_; rintro e w1 ⟨v1, rfl, hv1, hb1⟩; rw [ansPut] at hv1; rw [ansPut]; have hs := string23 hv1.reads; clear hv1))
  go_ret
  exact ⟨rfl, HB.out.trans (hb1.mono HB.out.size)⟩
end Go.Proofs.Ytjfponhdlfhmbaa.Avp
