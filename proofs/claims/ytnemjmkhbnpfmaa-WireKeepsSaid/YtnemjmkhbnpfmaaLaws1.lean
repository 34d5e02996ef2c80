/-
  The walk of the law WirePuts: it returns true, and writes nothing that was there.
-/
import Derived.Test.YtnemjmkhbnpfmaaWire2
import Derived.Deep.RegionWith
import Derived.Deep.DrawnRows
namespace Go.Proofs.Ytnemjmkhbnpfmaa.Laws
open Go.RowKit Mem Wire
set_option linter.unusedVariables false

theorem string22 {w : World} {v : Value} {xs : List Int} (hr : Reads .u8 w v xs) : (convert 22 9 v).run Try.prog w = .ok (.string (strOfNums xs)) w :=
  run_string 22 9 5 Try.underlying22 Try.underlying5 Try.underlying9 hr

attribute [local go_sem ↓] Go.wp_at_zero Go.wp_at_succ

theorem answers (w : World) : Calls Try.prog 8 #[] w fun e w' => e = .returned (.bool true) ∧ Below w.heap.size w w' := by
  have hnil : Reads .u8 w (.slice none 0 0) [] := ⟨none, 0, rfl, by simp, by simp, fun _ => rfl, fun h => by simp at h⟩
  have hd : (strOfNums (putted [] 258 3)).toList = [0, 1, 2] := by decide +kernel
  go_enter Try.func8, Try.ntmps8
  go_wp2_with (go_at_call 9; refine (put _ [] 258 3 _ (by omega) hnil (by simp)).mono ?_; rintro e w1 ⟨v1, rfl, hown, hb1⟩; have hs := string22 hown.reads; clear hown)
  go_ret
  exact ⟨rfl, hb1⟩

theorem Reads.stays {w : World} {v : Value} {xs : List Int} (hr : Reads .u8 w v xs) : ∀ w', Below w.heap.size w w' → (convert 22 9 v).run Try.prog w' = .ok (.string (strOfNums xs)) w' :=
  fun w' hb => string22 (hr.below hb)

theorem puts (p : Option Addr) (l c : Nat) (z : List Int) (n size : Int) (w : World) (hr : Frame.IsRow .u8 w p l c z) (hl : l ≤ 140737488351232) (hn : 0 ≤ n ∧ n ≤ 18446744073709551615) :
    Calls Try.prog 3 #[.slice p l c, .int .u64 n, .int .i64 size] w fun e w' => e = .returned (.bool true) ∧ Below w.heap.size w w' := by
  obtain ⟨hr, hlen, hwf⟩ := Mem.isRow_reads hr
  obtain ⟨xs, hx⟩ : ∃ xs, z.take l = xs := ⟨_, rfl⟩
  rw [hx] at hr hlen hwf
  clear hx
  have hlx : xs.length ≤ 140737488351232 := by omega
  have hrd : Reads .u8 w.drew (.slice p l c) xs := hr
  go_enter Try.func3, Try.ntmps3
  go_wp2_with fail
  go_region_with (first
    | (go_at_call 8; refine (answers _).mono ?_; rintro e w1 ⟨rfl, hb1⟩)
    | (go_at_call 10; refine (own _ _ _ (hrd.below hb1) (by omega)).mono ?_; rintro e w2 ⟨v2, rfl, hown2, hb2⟩)
    | (go_at_call 9; refine (put _ _ _ _ _ hn hown2.reads (by omega)).mono ?_; rintro e w3 ⟨v3, rfl, hown3, hb3⟩; have hs3 := Reads.stays hown3.reads; have hr3 := Below.refl w3.heap.size w3)
    | (go_at_call 11; refine (refPut _ _ _ _ _ hn (hrd.below (Frame.ext (Frame.ext hb1 hb2) hb3)) (by omega)).mono ?_; rintro e w4 ⟨v4, rfl, hown4, hb4⟩; have hs4 := Reads.stays hown4.reads; have hr4 := Below.refl w4.heap.size w4))
  all_goals go_wp2
  all_goals go_ret
  all_goals exact ⟨rfl, Frame.ext (Frame.ext_drew w) (Frame.ext (Frame.ext (Frame.ext hb1 hb2) hb3) hb4)⟩
end Go.Proofs.Ytnemjmkhbnpfmaa.Laws
