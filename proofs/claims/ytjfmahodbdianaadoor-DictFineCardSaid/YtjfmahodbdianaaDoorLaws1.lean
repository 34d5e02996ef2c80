/-
  Contracts: Judge whether or not the rules may be; answers.
-/
import Derived.Test.YtjfmahodbdianaaDoorJudge1
namespace Go.Proofs.YtjfmahodbdianaaDoor.Dict
open Go.RowKit Mem Cells Ops Rule Avps Go.Maps
set_option linter.unusedVariables false
set_option linter.unusedSimpArgs false

theorem judge (fit : Int → List Int → Int) (rs : List R) (l : List A) (v u : Value) (w : World) (hr : ReadsR w v rs) (hl : ReadsL w u l) (hok : ∀ r ∈ rs, r.ok) (hla : ∀ x ∈ l, x.ok ∧ x.data.length ≤ 140737488355328)
    (hf : ∀ x ∈ l, ∀ r ∈ rs, hitR x.code x.vendor r = true → FitsAt w fit r.type x.data) : Calls Tryd.prog 10 #[v, u] w (JudgeIs w (verdict fit rs l)) := by
  by_cases hs : sound rs
  · exact judgeIs fit rs l v u w hr hl hok hla hf hs
  · exact judgeForm fit rs l v u w hr hok hs
theorem reads_one_rule {w : World} {g : Nat} {r : R} (h : At w g 37 (rowR r)) : ReadsR w (.slice (some ⟨g, 0, none⟩) 1 1) [r] := by
  have : At w g 37 (flatR [r]).toArray := by simpa [flatR] using h
  exact (ownR_of_at (B := 0) [r] this (Nat.zero_le _) (by simp [maxLen])).reads
def ruleA : R := ⟨1, 0, 1, false, 1, 1⟩
theorem ruleA_ok : ∀ r ∈ [ruleA], r.ok := by
  intro r hr
  rw [List.mem_singleton] at hr
  subst hr
  unfold R.ok i64 ruleA
  decide
theorem ruleA_sound : sound [ruleA] := ⟨by decide, fine_of _ (by decide)⟩
theorem verdictA : verdict (fun _ _ => 0) [ruleA] [] = (5005, [lackA ruleA], 0) := verdict_lack (k := 0) ruleA_sound (fun j h => absurd h (Nat.not_lt_zero _)) rfl (fun j x h => absurd h (Nat.not_lt_zero _)) (by decide)
theorem buildRule (r : R) (w : World) : (Instr.buildSlice 22 1 #[(0, .agg (rowR r))]).run Tryd.prog w = .ok (.slice (some ⟨w.heap.size, 0, none⟩) 1 1) (w.alloc (.cells (rowR r) 37)) := by kernel_rfl
set_option maxRecDepth 100000 in
theorem answers (w : World) : Calls Tryd.prog 8 #[] w fun e w' => e = .returned (.bool true) ∧ Below w.heap.size w w' := by
  have PJ := Lib.hid (fun (v : Value) u (h : ReadsR u v [ruleA]) => by
    have := judge (fun _ _ => 0) [ruleA] [] v (.slice none 0 0) u h (ReadsL.nil u) ruleA_ok (fun x hx => by cases hx) (fun x hx => by cases hx)
    rwa [verdictA] at this)
  go_enter Tryd.func8, Tryd.ntmps8
  go_wp2_with (first
    | ((with_reducible refine wpl_buildS rfl 22 1 #[(0, .tmp 5)] rfl #[(0, .agg (rowR ruleA))] ?_ 37 (rowR ruleA) (fun _ => buildRule _ _) ?_); (simp [Act.eval, rowR, ruleA]); go_must (intro u1 hat hb hs; clear hs))
    | (go_at_call 10; go_must (refine (PJ.out _ _ (reads_one_rule hat)).mono ?_; rintro e u2 ⟨v', rfl, hfl, hb2⟩; obtain ⟨g, d, rfl, hg, hat2, hrow⟩ := hfl; have hb3 := hb.trans (hb2.mono hb.size); clear hat hat2 hrow hb2)))
  go_ret
  exact ⟨rfl, hb3⟩
end Go.Proofs.YtjfmahodbdianaaDoor.Dict
