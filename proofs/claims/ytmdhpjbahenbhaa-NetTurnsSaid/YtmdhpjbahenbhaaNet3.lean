/-
  Contracts: New, clone, fault, Len.
-/
import Derived.Test.YtmdhpjbahenbhaaNet1
namespace Go.Proofs.Ytmdhpjbahenbhaa.Net
open Go.RowKit Mem Cells Ops Go.Maps
set_option linter.unusedVariables false
set_option linter.unusedSimpArgs false

def zero35 : Array Value := #[.int .i64 0, .int .i64 0, .int .i64 0, .int .i64 0, .slice none 0 0, .bool false]
set_option maxRecDepth 100000 in
set_option maxHeartbeats 800000 in
theorem cloneF (f : F) (d : Value) (w : World) (hr : Reads .u8 w d f.bytes) (hb : f.bytes.length ≤ 140737488355328) :
    Calls Try.prog 23 #[.agg (rowF f d).toArray] w fun e w' => ∃ d', e = .returned (.agg (rowF f d').toArray) ∧ Row .u8 5 w.heap.size w' d' f.bytes ∧ Below w.heap.size w w' := by
  have HR := Lib.hid hr
  have P := Lib.hid (fun u (h : Below w.heap.size w u) => clone8 d f.bytes u (hr.below h) hb)
  obtain ⟨p, c, rfl, _⟩ := hr
  obtain ⟨n, hn⟩ : ∃ n, f.bytes.length = n := ⟨_, rfl⟩
  have HN := Lib.hid hn
  rw [hn] at P HR ⊢
  clear hn
  go_enter Try.func23, Try.ntmps23
  go_wp2_with (first
    | ((with_reducible refine wpl_boxAt rfl 35 (.tmp 0) rfl (rowF f (.slice p n c)).toArray ?_ ?_); rfl; go_must (intro w1 hat1 hb1 hs1))
    | ((with_reducible refine wpl_allocAt rfl 35 rfl zero35 (by kernel_rfl) ?_); go_must (intro w2 hat2 hb2 hs2; rw [hs1] at hat2; have hatb := hat1.ext hb2; have hu2 := hb1.trans (hb2.mono hb1.size); have c4 := hatb.cell 4; simp [rowF] at c4; clear hs2 hat1))
    | (go_at_call 35; go_must (refine (P.out _ hu2).mono ?_; rintro e w3 ⟨v3, rfl, hr3, hb3⟩; have hatc := hatb.ext hb3; have hat3 := hat2.ext hb3; have hu3 := hu2.trans (hb3.mono hu2.size); clear c4 hatb hat2; obtain ⟨p3, c3, hv3, _⟩ := id hr3.reads; rw [HN.out] at hv3; subst hv3))
    | ((with_reducible refine wpl_storeC rfl 31 (.tmp 6) (.tmp 5) rfl rfl w.heap.size 4 35 (rowF f (.slice p n c)).toArray (rowF f (.slice p3 n c3)).toArray (.slice p3 n c3) ?_ ?_ hatc ?_ (by kernel_rfl) ?_ ?_ ?_); rfl; rfl; exact (show (4 : Nat) < 6 by decide); rfl; rfl; go_must (intro w4 hatd hg4; have hat4 := hat3.grown hg4 (by omega); have hu4 := below_grown hu3 hg4 hu3.size (Nat.le_refl _); have hr4 := Lib.hid (hr3.kept hg4 (.inr (own_ne hr3 hatc (by decide)))); have H5 := Lib.hid (own_ne hr4.out hat4 (by decide))))
    | ((with_reducible refine wpl_loadAt rfl 35 (.tmp 1) rfl w.heap.size 35 (rowF f (.slice p3 n c3)).toArray hatd _ Try.underlying35 rfl (by kernel_rfl) ?_ ?_); rfl)
    | ((with_reducible refine wpl_storeR rfl 35 (.tmp 2) (.tmp 7) rfl rfl (w.heap.size + 1) 35 zero35 (rowF f (.slice p3 n c3)).toArray ?_ ?_ hat4 (by kernel_rfl) ?_ ?_ ?_); rfl; rfl; rfl; (simp [rowF, Value.oneCell']); go_must (intro w5 hat5 hg5; have hu5 := below_grown hu4 hg5 hu4.size (by omega); have hr5 := hr4.out.kept hg5 (.inr H5.out))))
  exact end_cell (fn := Try.f23) (p := 2) (ty := 35) (by kernel_rfl) rfl hat5 Try.underlying35 rfl (by kernel_rfl) rfl ⟨_, rfl, Row.mono hr5 (by have := hu2.size; omega), hu5⟩
set_option maxRecDepth 100000 in
theorem faultNil (k : Int) (w : World) : Calls Try.prog 24 #[.pointer none, .int .i64 k] w fun e w' => e = .returned (.int .i64 1) ∧ w' = w := by
  go_enter Try.func24, Try.ntmps24
  go_wp2_with fail
  go_ret
  exact ⟨rfl, rfl⟩
def faultE (m : Nat) (k : Int) : Int := if inB m k then 0 else 8
set_option maxRecDepth 100000 in
theorem fault (S m c : Nat) (p : Option Addr) (v1 v2 : Value) (k : Int) (w : World) (hS : At w S 61 #[v1, .slice p m c, v2]) (hm : m ≤ 1024) :
    Calls Try.prog 24 #[.pointer (some ⟨S, 0, none⟩), .int .i64 k] w fun e w' => e = .returned (.int .i64 (faultE m k)) ∧ w' = w := by
  have c1 := hS.cell 1
  simp at c1
  clear hS
  unfold faultE inB
  by_cases h0 : k < 0
  · rw [decide_eq_false (show ¬ (0 ≤ k ∧ k < m) by omega)]
    go_enter Try.func24, Try.ntmps24
    go_wp2_with fail
    go_ret
    exact ⟨rfl, rfl⟩
  · by_cases h1 : (m : Int) ≤ k
    · rw [decide_eq_false (show ¬ (0 ≤ k ∧ k < m) by omega)]
      go_enter Try.func24, Try.ntmps24
      go_wp2_with fail
      go_ret
      exact ⟨rfl, rfl⟩
    · rw [decide_eq_true (show 0 ≤ k ∧ k < m by omega)]
      go_enter Try.func24, Try.ntmps24
      go_wp2_with fail
      go_ret
      exact ⟨rfl, rfl⟩
set_option maxRecDepth 100000 in
theorem LenNil (w : World) : Calls Try.prog 11 #[.pointer none] w fun e w' => e = .returned (.int .i64 0) ∧ w' = w := by
  go_enter Try.func11, Try.ntmps11
  go_wp2_with fail
  go_ret
  exact ⟨rfl, rfl⟩
set_option maxRecDepth 100000 in
theorem Len {X : Nat → Prop} {w : World} {S : Nat} {hosts : Int} {fs : List F} {cut : Int → Int → Int → Bool} {n : Nat} (h : Net X w S hosts fs cut n) :
    Calls Try.prog 11 #[.pointer (some ⟨S, 0, none⟩)] w fun e w' => e = .returned (.int .i64 fs.length) ∧ w' = w := by
  obtain ⟨zs, p, m, c, b, D, h⟩ := h
  rw [h.flen]
  have c1 := h.row.cell 1
  simp at c1
  clear h
  go_enter Try.func11, Try.ntmps11
  go_wp2_with fail
  go_ret
  exact ⟨rfl, rfl⟩
set_option maxRecDepth 100000 in
theorem NewBad (hosts : Int) (w : World) (h : hosts < 1 ∨ 8 < hosts) : Calls Try.prog 8 #[.int .i64 hosts] w fun e w' => e = .returned (.tuple #[.pointer none, .int .i64 1]) ∧ w' = w := by
  by_cases h0 : hosts < 1
  · clear h
    go_enter Try.func8, Try.ntmps8
    go_wp2_with fail
    go_ret2
    exact ⟨rfl, rfl⟩
  · have h1 : 8 < hosts := by omega
    clear h
    go_enter Try.func8, Try.ntmps8
    go_wp2_with fail
    go_ret2
    exact ⟨rfl, rfl⟩
section
variable {P : Program} {w : World} {ops : Array Oper} {rest : List Oper} {o : Oper} {a : Act} {Q : Exit → Act → World → Prop}
/-- A new map. -/
theorem wpl_makeMap (hg : o.guard = none) (t : TypeId) (ho : o.op = .makeMap t none) (hrun : (Instr.makeMap t none).run P w = .ok (.map (some w.heap.size)) (w.alloc (.map #[] 0))) (k : TypeId) (R : Value → Option (DataW Unit × List MemPlace))
    (h : ∀ w', w'.ownsMap P k R w.heap.size 0 (.map []) → Below w.heap.size w w' → w'.heap.size = w.heap.size + 1 → wpList P ops Q rest (a.put o.dst (.map (some w.heap.size))) w') : wpList P ops Q (o :: rest) a w := by
  refine wpList_plain hg fun K' hK' => ?_
  unfold Oper.wp
  simp [execOp, ho, hrun, Result.andThen]
  exact hK' _ _ (h _ (World.ownsMap_made w P k R) ((Below.refl _ _).alloc (Nat.le_refl _) _) (by simp))
end
set_option maxRecDepth 100000 in
theorem New (hosts : Int) (w : World) (h : 1 ≤ hosts ∧ hosts ≤ 8) : Calls Try.prog 8 #[.int .i64 hosts] w fun e w' => e = .returned (.tuple #[.pointer (some ⟨w.heap.size + 1, 0, none⟩), .int .i64 0]) ∧ Net (more (fun _ => False) w w') w' (w.heap.size + 1) hosts [] (fun _ _ _ => false) 0 ∧ Below w.heap.size w w' := by
  go_enter Try.func8, Try.ntmps8
  go_wp2_with (first
    | ((with_reducible refine wpl_makeMap rfl 59 rfl ?_ 65 (plainElem Try.prog 4) ?_); (with_unfolding_all rfl); go_must (intro w1 hm1 hb1 hs1))
    | ((with_reducible refine wpl_boxAt rfl 61 (.tmp 12) rfl #[.int .i64 hosts, .slice none 0 0, .map (some w.heap.size)] ?_ ?_); rfl; go_must (intro w2 hat2 hb2 hs2; rw [hs1] at hat2 hs2; have hm2 := Lib.hid (hm1.kept (grown_below none hb2) (by simp)); have hu := hb1.trans (hb2.mono hb1.size))))
  go_ret2
  refine ⟨rfl, ⟨[], none, 0, 0, w.heap.size, .map [], hat2, .inr (by omega), .inr (by omega), rfl, rfl, OwnF.nil _ _, hm2.out, Says.nil, ⟨by simp, fun f hf => by cases hf⟩, by omega, h⟩, hu⟩
end Go.Proofs.Ytmdhpjbahenbhaa.Net
