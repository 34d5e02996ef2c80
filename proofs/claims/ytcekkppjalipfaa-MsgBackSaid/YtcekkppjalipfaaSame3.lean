/-
  Contract: SameMsg, of a message and itself (its lists of attributes may lie elsewhere). The law MsgGets: the walk.
-/
import Derived.Test.YtcekkppjalipfaaMGet
namespace Go.Proofs.Ytcekkppjalipfaa.Avp
open Go.RowKit Mem Cells Avps Wire Ops
set_option linter.unusedVariables false
set_option linter.unusedSimpArgs false

set_option maxRecDepth 100000 in
set_option maxHeartbeats 1600000 in
theorem sameMsg (m : M) (p q : Option Addr) (c k : Nat) (w : World) (hp : ReadsL w (.slice p m.avps.length c) m.avps) (hq : ReadsL w (.slice q m.avps.length k) m.avps) (ha : ∀ a ∈ m.avps, a.ok) :
    Calls Try.prog 24 #[.agg (rowM m (.slice p m.avps.length c)), .agg (rowM m (.slice q m.avps.length k))] w fun e w' => e = .returned (.bool true) ∧ Below w.heap.size w w' := by
  have HS := Lib.hid (fun u (h : Below w.heap.size w u) => by have := sameAll _ _ m.avps m.avps u (hp.below h) (hq.below h) ha ha; rwa [decide_eq_true rfl] at this)
  obtain ⟨n, hn⟩ : ∃ n, m.avps.length = n := ⟨_, rfl⟩
  rw [hn] at HS ⊢
  clear hp hq ha hn
  go_enter Try.func24, Try.ntmps24
  go_wp2_with (first
    | ((with_reducible refine wpl_boxAt rfl 25 (.tmp 0) rfl (rowM m (.slice p n c)) ?_ ?_); rfl; go_must (intro w1 hat1 hb1 hs1; clear hs1))
    | ((with_reducible refine wpl_boxAt rfl 25 (.tmp 1) rfl (rowM m (.slice q n k)) ?_ ?_); rfl; go_must (intro w2 hat2 hb2 hs2; clear hs2; have hb12 := hb1.trans (hb2.mono hb1.size); have hat12 := hat1.ext hb2; have x0 := hat12.cell 0; have x1 := hat12.cell 1; have x2 := hat12.cell 2; have x3 := hat12.cell 3; have x4 := hat12.cell 4; have x5 := hat12.cell 5; have x6 := hat12.cell 6; have x7 := hat12.cell 7; have x8 := hat12.cell 8; have y0 := hat2.cell 0; have y1 := hat2.cell 1; have y2 := hat2.cell 2; have y3 := hat2.cell 3; have y4 := hat2.cell 4; have y5 := hat2.cell 5; have y6 := hat2.cell 6; have y7 := hat2.cell 7; have y8 := hat2.cell 8; simp [rowM] at x0 x1 x2 x3 x4 x5 x6 x7 x8 y0 y1 y2 y3 y4 y5 y6 y7 y8; clear hat1 hat2 hat12 hb1 hb2))
    | (go_at_call 41; go_must (refine (HS.out _ hb12).mono ?_; rintro e w3 ⟨rfl, hb3⟩; have hb := hb12.trans (hb3.mono hb12.size))))
  go_ret
  exact ⟨rfl, hb⟩
end Go.Proofs.Ytcekkppjalipfaa.Avp
