/-
  The law NetCuts: the walk.
-/
import Derived.Test.YtmdhpjbahenbhaaFull1
namespace Go.Proofs.Ytmdhpjbahenbhaa.Net
open Go.RowKit Mem Cells Ops Go.Maps
set_option linter.unusedVariables false
set_option linter.unusedSimpArgs false

/-- A net of four hosts, with at most k frames (some, if b). -/
def StN (B gn S : Nat) (w : World) (cut : Int → Int → Int → Bool) (k : Nat) (b : Bool) : Prop := ∃ fs n, St B gn S w 4 fs cut n ∧ fs.length ≤ k ∧ n ≤ k ∧ (b = true → 0 < fs.length)
theorem StN.below {B gn S k : Nat} {w w' : World} {cut : Int → Int → Int → Bool} {b : Bool} (h : StN B gn S w cut k b) (hb : Below w.heap.size w w') : StN B gn S w' cut k b := by
  obtain ⟨fs, n, h1, h2⟩ := h
  exact ⟨fs, n, h1.below hb, h2⟩
theorem StN.c0 {B gn S k : Nat} {w : World} {cut : Int → Int → Int → Bool} {b : Bool} (h : StN B gn S w cut k b) : w.cell? ⟨gn, 0, none⟩ = some (.pointer (some ⟨S, 0, none⟩)) := by
  obtain ⟨fs, n, ⟨Y, _, _, h3, _⟩, h2⟩ := h
  have := h3.cell 0
  simpa using this
theorem sendN {B gn S k : Nat} {w : World} {cut : Int → Int → Int → Bool} {b : Bool} (h : StN B gn S w cut k b) (x y q : Int) (ha : sendArg 4 x q y q = true) (hk : k < 900) (r : Bool) (hr : cut x y q = r) :
    Calls Try.prog 10 #[.int .i64 x, .int .i64 y, .int .i64 q, .pointer (some ⟨gn, 0, none⟩)] w fun e w' => e = .returned (.bool (!r)) ∧ StN B gn S w' cut (k + 1) (b || !r) ∧ Below B w w' := by
  obtain ⟨fs, n, h1, h2, h3, h4⟩ := h
  refine (send10 h1 x y q ha (by omega)).mono fun e w' ⟨e1, e2, e3⟩ => ?_
  rw [hr] at e1 e2
  refine ⟨e1, ⟨_, _, e2, ?_, by omega, ?_⟩, e3⟩
  · cases r <;> simp <;> omega
  · cases r
    · simp
    · simpa using h4
theorem cutN {B gn S k : Nat} {w : World} {cut : Int → Int → Int → Bool} {b : Bool} (h : StN B gn S w cut k b) (f t q : Int) (d : Bool) (ha : cutArg 4 f t q = true) (hk : k < 900) :
    Calls Try.prog 13 #[.pointer (some ⟨S, 0, none⟩), .int .i64 f, .int .i64 t, .int .i64 q, .bool d] w fun e w' => e = .returned (.int .i64 0) ∧ StN B gn S w' (cutF cut f t q d) (k + 1) b ∧ Below B w w' := by
  obtain ⟨fs, n, ⟨X, hN, hX, hgn, hB, hBw⟩, h2, h3, h4⟩ := h
  refine (CutOk hN f t q d ha (by omega)).mono fun e w' ⟨e1, e2, e3⟩ => ?_
  obtain ⟨k1, k2⟩ := St.step hgn hX hB hBw (e2.mono more_self) e3
  exact ⟨e1, ⟨_, _, k1, by omega, by omega, h4⟩, k2⟩
theorem takeN {B gn S k : Nat} {w : World} {cut : Int → Int → Int → Bool} (h : StN B gn S w cut k true) :
    Calls Try.prog 14 #[.pointer (some ⟨S, 0, none⟩), .int .i64 0] w fun e w' => (∃ f p l c, e = .returned (.tuple #[.agg (rowF f (.slice p l c)).toArray, .int .i64 0])) ∧ StN B gn S w' cut k false ∧ Below B w w' := by
  obtain ⟨fs, n, ⟨X, hN, hX, hgn, hB, hBw⟩, h2, h3, h4⟩ := h
  obtain ⟨zs, p, m, c, b, D, h0⟩ := hN
  have hl := h0.flen
  have hm : 0 < m := by have := h4 rfl; omega
  obtain ⟨z, hz1, hz2⟩ := h0.get 0 hm
  refine (TakeZ h0 0 hm z hz1).mono fun e w' ⟨e1, ⟨p', c', e2⟩, e3, e4⟩ => ?_
  obtain ⟨k1, k2⟩ := St.step hgn hX hB hBw (Net.mono ⟨_, _, _, _, _, _, e2⟩ more_self) e4
  obtain ⟨pd, cd, ed, _⟩ := e3.1.reads
  rw [ed] at e1
  exact ⟨⟨_, _, _, _, e1⟩, ⟨_, _, k1, by rw [List.length_eraseIdx]; split <;> omega, h3, fun h => by cases h⟩, k2⟩
theorem arg_ok (x y q : Int) (hx : 0 ≤ x ∧ x < 4) (hy : 0 ≤ y ∧ y < 4) (hq : 0 ≤ q ∧ q < 2) (hne : x ≠ y) : sendArg 4 x q y q = true ∧ cutArg 4 x y q = true := by
  unfold sendArg cutArg hostB pathB
  rw [decide_eq_true hx, decide_eq_true hy, decide_eq_true hq, decide_eq_false hne]
  exact ⟨rfl, rfl⟩
theorem stNew {w w1 w2 w3 : World} (hN : Net (more (fun _ => False) w w1) w1 (w.heap.size + 1) 4 [] noCut 0) (hb1 : Below w.heap.size w w1) (hb2 : Below w1.heap.size w1 w2) (hg : w2.grownBy w3 (some w1.heap.size)) (hat : At w3 w1.heap.size 22 #[.pointer (some ⟨w.heap.size + 1, 0, none⟩)]) :
    StN w.heap.size w1.heap.size (w.heap.size + 1) w3 noCut 0 false ∧ Below w.heap.size w w3 := by
  have hb3 : Below w1.heap.size w1 w3 := below_grown hb2 hg hb2.size (Nat.le_refl _)
  have hT := hb1.size
  refine ⟨⟨[], 0, ⟨_, hN.below hb3, ?_, hat, more_from (B := w.heap.size) (fun _ h => h.elim) (Nat.le_refl _), by have := hb3.size; omega⟩, by simp, by omega, fun h => by cases h⟩, hb1.trans (hb3.mono hT)⟩
  rintro (h | h)
  · exact h
  · omega
set_option maxRecDepth 100000 in
set_option maxHeartbeats 3200000 in
theorem cuts_ (f t p o : Int) (w : World) (hf : 0 ≤ f ∧ f ≤ 255) (ht : 0 ≤ t ∧ t ≤ 255) (hp : 0 ≤ p ∧ p ≤ 255) (ho : 0 ≤ o ∧ o ≤ 255) : Calls Try.prog 3 #[.int .u8 f, .int .u8 t, .int .u8 p, .int .u8 o] w fun e w' => e = .returned (.bool true) ∧ Below w.heap.size w w' := by
  have PN := Lib.hid (New 4 w (by omega))
  obtain ⟨a, ha⟩ : ∃ a, f % 4 = a := ⟨_, rfl⟩
  obtain ⟨b, hb⟩ : ∃ b, t % 4 = b := ⟨_, rfl⟩
  obtain ⟨q, hq⟩ : ∃ q, p % 2 = q := ⟨_, rfl⟩
  obtain ⟨c, hc⟩ : ∃ c, o % 4 = c := ⟨_, rfl⟩
  have a1 : 0 ≤ a ∧ a < 4 := by omega
  have b1 : 0 ≤ b ∧ b < 4 := by omega
  have q1 : 0 ≤ q ∧ q < 2 := by omega
  have c1 : 0 ≤ c ∧ c < 4 := by omega
  have T1 := Lib.hid (rfl : w = w)
  by_cases hab : a = b
  · have t1 : (a == b) = true := by simpa using hab
    clear hab
    go_enter Try.func3, Try.ntmps3
    go_wp2_with (first
      | (go_at_call 8; go_must (refine PN.out.mono ?_; rintro e w1 ⟨rfl, hN, hb1⟩))
      | ((with_reducible refine wpl_allocAt rfl 22 rfl #[.pointer none] (by kernel_rfl) ?_); go_must (intro w2 hat2 hb2 hs2; clear hs2))
      | ((with_reducible refine wpl_storeC rfl 22 (.tmp 9) (.tmp 20) rfl rfl w1.heap.size 0 22 #[.pointer none] #[.pointer (some ⟨w.heap.size + 1, 0, none⟩)] (.pointer (some ⟨w.heap.size + 1, 0, none⟩)) ?_ ?_ hat2 ?_ (by kernel_rfl) ?_ ?_ ?_); rfl; rfl; exact (show (0 : Nat) < 1 by decide); rfl; rfl; go_must (intro w3 hat3 hg3; obtain ⟨hS3, hu3⟩ := stNew hN hb1 hb2 hg3 hat3))
      | (go_at_call 9; go_must (refine (answers _).mono ?_; rintro e w4 ⟨rfl, hb4⟩; have hu4 := hu3.trans (hb4.mono hu3.size); clear hu3; have hu3 := hu4)))
    go_ret
    exact ⟨rfl, hu3⟩
  · have t1 : (a == b) = false := by simpa using hab
    have OK := Lib.hid (arg_ok a b q a1 b1 q1 hab)
    have OK4 := Lib.hid (arg_ok a b (1 - q) a1 b1 (by omega) hab)
    have OK5 := Lib.hid (arg_ok b a q b1 a1 q1 (Ne.symm hab))
    obtain ⟨cu, hcu⟩ : ∃ cu, cutF noCut a b q true = cu := ⟨_, rfl⟩
    have E2 := Lib.hid (show cu a b q = true by rw [← hcu]; simp [cutF])
    have E3 := Lib.hid (show cu a b (1 - q) = false by rw [← hcu]; unfold cutF; rw [if_neg (by omega)])
    have E4 := Lib.hid (show cu b a q = false by rw [← hcu]; unfold cutF; rw [if_neg (by omega)])
    have E6 := Lib.hid (show cutF cu a b q false a b q = false by simp [cutF])
    have HC := Lib.hid hcu
    have K1 := T1
    have K2 := T1
    have K3 := T1
    have K4 := T1
    have K5 := T1
    have K6 := T1
    have K7 := T1
    have K8 := T1
    clear T1
    by_cases hca : c = a
    · have t2 : (c == a) = true := by simpa using hca
      have n2 : (c != a) = false := by simp [hca]
      clear hab hcu hca
      go_enter Try.func3, Try.ntmps3
      go_wp2_with (first
        | (go_at_call 8; go_must (refine PN.out.mono ?_; rintro e w1 ⟨rfl, hN, hb1⟩))
        | ((with_reducible refine wpl_allocAt rfl 22 rfl #[.pointer none] (by kernel_rfl) ?_); go_must (intro w2 hat2 hb2 hs2; clear hs2))
        | ((with_reducible refine wpl_storeC rfl 22 (.tmp 9) (.tmp 20) rfl rfl w1.heap.size 0 22 #[.pointer none] #[.pointer (some ⟨w.heap.size + 1, 0, none⟩)] (.pointer (some ⟨w.heap.size + 1, 0, none⟩)) ?_ ?_ hat2 ?_ (by kernel_rfl) ?_ ?_ ?_); rfl; rfl; exact (show (0 : Nat) < 1 by decide); rfl; rfl; go_must (intro w3 hat3 hg3; obtain ⟨hS, hu⟩ := stNew hN hb1 hb2 hg3 hat3; clear hN hb1 hb2 hg3 hat3 hat2))
        | (go_at_call 9; go_must (refine (answers _).mono ?_; rintro e w4 ⟨rfl, hb4⟩; have hS4 := hS.below hb4; have hu4 := hu.trans (hb4.mono hu.size); clear hS hu; have hS := hS4; have hu := hu4; clear hS4 hu4 hb4; have c0 := hS.c0))
        | (go_at_call 10; have _t := K1; clear _t; go_must (refine (sendN hS a b q OK.out.1 (by decide) false rfl).mono ?_; clear K1 c0; rintro e w5 ⟨rfl, hS', hb'⟩; have hu' := hu.trans hb'; clear hS hu hb'; have hS := hS'; have hu := hu'; clear hS' hu'; have c0 := hS.c0))
        | (go_at_call 13; have _t := K2; clear _t; go_must (have PK := cutN hS a b q true OK.out.2 (by decide); rw [HC.out] at PK; refine PK.mono ?_; clear PK K2 c0; rintro e w6 ⟨rfl, hS', hb'⟩; have hu' := hu.trans hb'; clear hS hu hb'; have hS := hS'; have hu := hu'; clear hS' hu'; have c0 := hS.c0))
        | (go_at_call 10; have _t := K3; clear _t; go_must (refine (sendN hS a b q OK.out.1 (by decide) true E2.out).mono ?_; clear K3 c0; rintro e w7 ⟨rfl, hS', hb'⟩; have hu' := hu.trans hb'; clear hS hu hb'; have hS := hS'; have hu := hu'; clear hS' hu'; have c0 := hS.c0))
        | (go_at_call 10; have _t := K4; clear _t; go_must (refine (sendN hS a b (1 - q) OK4.out.1 (by decide) false E3.out).mono ?_; clear K4 c0; rintro e w8 ⟨rfl, hS', hb'⟩; have hu' := hu.trans hb'; clear hS hu hb'; have hS := hS'; have hu := hu'; clear hS' hu'; have c0 := hS.c0))
        | (go_at_call 10; have _t := K5; clear _t; go_must (refine (sendN hS b a q OK5.out.1 (by decide) false E4.out).mono ?_; clear K5 c0; rintro e w9 ⟨rfl, hS', hb'⟩; have hu' := hu.trans hb'; clear hS hu hb'; have hS := hS'; have hu := hu'; clear hS' hu'; have c0 := hS.c0))
        | (go_at_call 14; go_must (refine (takeN hS).mono ?_; clear c0; rintro e w11 ⟨⟨ff, pp, ll, cc, rfl⟩, hS', hb'⟩; have hu' := hu.trans hb'; clear hS hu hb'; have hS := hS'; have hu := hu'; clear hS' hu'; have c0 := hS.c0))
        | ((with_reducible refine wpl_allocAt rfl 35 rfl zero35 (by kernel_rfl) ?_); go_must (intro w12 hat12 hb12 hs12; clear hs12))
        | ((with_reducible refine wpl_storeR rfl 35 (.tmp 16) (.tmp 104) rfl rfl w11.heap.size 35 zero35 (rowF ff (.slice pp ll cc)).toArray ?_ ?_ hat12 (by kernel_rfl) ?_ ?_ ?_); rfl; rfl; rfl; (simp [rowF, Value.oneCell']); go_must (intro w13 hat13 hg13; have hb13 := below_grown hb12 hg13 hb12.size (Nat.le_refl _); have hS' := hS.below hb13; have hu' := hu.trans (hb13.mono hu.size); clear hS hu hb13 hb12 hat12 hat13 hg13 c0; have hS := hS'; have hu := hu'; clear hS' hu'; have c0 := hS.c0))
        | (go_at_call 13; have _t := K7; clear _t; go_must (refine (cutN hS a b q false OK.out.2 (by decide)).mono ?_; clear K7 c0; rintro e w14 ⟨rfl, hS', hb'⟩; have hu' := hu.trans hb'; clear hS hu hb'; have hS := hS'; have hu := hu'; clear hS' hu'; have c0 := hS.c0))
        | (go_at_call 10; have _t := K8; clear _t; go_must (refine (sendN hS a b q OK.out.1 (by decide) false E6.out).mono ?_; clear K8 c0; rintro e w15 ⟨rfl, hS', hb'⟩; have hu' := hu.trans hb'; clear hS hu hb'; have hS := hS'; have hu := hu'; clear hS' hu'; have c0 := hS.c0)))
      go_ret
      exact ⟨rfl, hu⟩
    · have t2 : (c == a) = false := by simpa using hca
      have n2 : (c != a) = true := by simp [bne, t2]
      by_cases hcb : c = b
      · have t3 : (c == b) = true := by simpa using hcb
        have n3 : (c != b) = false := by simp [hcb]
        clear hab hcu hca hcb
        go_enter Try.func3, Try.ntmps3
        go_wp2_with (first
        | (go_at_call 8; go_must (refine PN.out.mono ?_; rintro e w1 ⟨rfl, hN, hb1⟩))
        | ((with_reducible refine wpl_allocAt rfl 22 rfl #[.pointer none] (by kernel_rfl) ?_); go_must (intro w2 hat2 hb2 hs2; clear hs2))
        | ((with_reducible refine wpl_storeC rfl 22 (.tmp 9) (.tmp 20) rfl rfl w1.heap.size 0 22 #[.pointer none] #[.pointer (some ⟨w.heap.size + 1, 0, none⟩)] (.pointer (some ⟨w.heap.size + 1, 0, none⟩)) ?_ ?_ hat2 ?_ (by kernel_rfl) ?_ ?_ ?_); rfl; rfl; exact (show (0 : Nat) < 1 by decide); rfl; rfl; go_must (intro w3 hat3 hg3; obtain ⟨hS, hu⟩ := stNew hN hb1 hb2 hg3 hat3; clear hN hb1 hb2 hg3 hat3 hat2))
        | (go_at_call 9; go_must (refine (answers _).mono ?_; rintro e w4 ⟨rfl, hb4⟩; have hS4 := hS.below hb4; have hu4 := hu.trans (hb4.mono hu.size); clear hS hu; have hS := hS4; have hu := hu4; clear hS4 hu4 hb4; have c0 := hS.c0))
        | (go_at_call 10; have _t := K1; clear _t; go_must (refine (sendN hS a b q OK.out.1 (by decide) false rfl).mono ?_; clear K1 c0; rintro e w5 ⟨rfl, hS', hb'⟩; have hu' := hu.trans hb'; clear hS hu hb'; have hS := hS'; have hu := hu'; clear hS' hu'; have c0 := hS.c0))
        | (go_at_call 13; have _t := K2; clear _t; go_must (have PK := cutN hS a b q true OK.out.2 (by decide); rw [HC.out] at PK; refine PK.mono ?_; clear PK K2 c0; rintro e w6 ⟨rfl, hS', hb'⟩; have hu' := hu.trans hb'; clear hS hu hb'; have hS := hS'; have hu := hu'; clear hS' hu'; have c0 := hS.c0))
        | (go_at_call 10; have _t := K3; clear _t; go_must (refine (sendN hS a b q OK.out.1 (by decide) true E2.out).mono ?_; clear K3 c0; rintro e w7 ⟨rfl, hS', hb'⟩; have hu' := hu.trans hb'; clear hS hu hb'; have hS := hS'; have hu := hu'; clear hS' hu'; have c0 := hS.c0))
        | (go_at_call 10; have _t := K4; clear _t; go_must (refine (sendN hS a b (1 - q) OK4.out.1 (by decide) false E3.out).mono ?_; clear K4 c0; rintro e w8 ⟨rfl, hS', hb'⟩; have hu' := hu.trans hb'; clear hS hu hb'; have hS := hS'; have hu := hu'; clear hS' hu'; have c0 := hS.c0))
        | (go_at_call 10; have _t := K5; clear _t; go_must (refine (sendN hS b a q OK5.out.1 (by decide) false E4.out).mono ?_; clear K5 c0; rintro e w9 ⟨rfl, hS', hb'⟩; have hu' := hu.trans hb'; clear hS hu hb'; have hS := hS'; have hu := hu'; clear hS' hu'; have c0 := hS.c0))
        | (go_at_call 14; go_must (refine (takeN hS).mono ?_; clear c0; rintro e w11 ⟨⟨ff, pp, ll, cc, rfl⟩, hS', hb'⟩; have hu' := hu.trans hb'; clear hS hu hb'; have hS := hS'; have hu := hu'; clear hS' hu'; have c0 := hS.c0))
        | ((with_reducible refine wpl_allocAt rfl 35 rfl zero35 (by kernel_rfl) ?_); go_must (intro w12 hat12 hb12 hs12; clear hs12))
        | ((with_reducible refine wpl_storeR rfl 35 (.tmp 16) (.tmp 104) rfl rfl w11.heap.size 35 zero35 (rowF ff (.slice pp ll cc)).toArray ?_ ?_ hat12 (by kernel_rfl) ?_ ?_ ?_); rfl; rfl; rfl; (simp [rowF, Value.oneCell']); go_must (intro w13 hat13 hg13; have hb13 := below_grown hb12 hg13 hb12.size (Nat.le_refl _); have hS' := hS.below hb13; have hu' := hu.trans (hb13.mono hu.size); clear hS hu hb13 hb12 hat12 hat13 hg13 c0; have hS := hS'; have hu := hu'; clear hS' hu'; have c0 := hS.c0))
        | (go_at_call 13; have _t := K7; clear _t; go_must (refine (cutN hS a b q false OK.out.2 (by decide)).mono ?_; clear K7 c0; rintro e w14 ⟨rfl, hS', hb'⟩; have hu' := hu.trans hb'; clear hS hu hb'; have hS := hS'; have hu := hu'; clear hS' hu'; have c0 := hS.c0))
        | (go_at_call 10; have _t := K8; clear _t; go_must (refine (sendN hS a b q OK.out.1 (by decide) false E6.out).mono ?_; clear K8 c0; rintro e w15 ⟨rfl, hS', hb'⟩; have hu' := hu.trans hb'; clear hS hu hb'; have hS := hS'; have hu := hu'; clear hS' hu'; have c0 := hS.c0)))
        go_ret
        exact ⟨rfl, hu⟩
      · have t3 : (c == b) = false := by simpa using hcb
        have n3 : (c != b) = true := by simp [bne, t3]
        have E5 := Lib.hid (show cu a c q = false by rw [← hcu]; unfold cutF; rw [if_neg (by omega)])
        have OK6 := Lib.hid (arg_ok a c q a1 c1 q1 (Ne.symm hca))
        clear hab hcu hca hcb
        go_enter Try.func3, Try.ntmps3
        go_wp2_with (first
        | (go_at_call 8; go_must (refine PN.out.mono ?_; rintro e w1 ⟨rfl, hN, hb1⟩))
        | ((with_reducible refine wpl_allocAt rfl 22 rfl #[.pointer none] (by kernel_rfl) ?_); go_must (intro w2 hat2 hb2 hs2; clear hs2))
        | ((with_reducible refine wpl_storeC rfl 22 (.tmp 9) (.tmp 20) rfl rfl w1.heap.size 0 22 #[.pointer none] #[.pointer (some ⟨w.heap.size + 1, 0, none⟩)] (.pointer (some ⟨w.heap.size + 1, 0, none⟩)) ?_ ?_ hat2 ?_ (by kernel_rfl) ?_ ?_ ?_); rfl; rfl; exact (show (0 : Nat) < 1 by decide); rfl; rfl; go_must (intro w3 hat3 hg3; obtain ⟨hS, hu⟩ := stNew hN hb1 hb2 hg3 hat3; clear hN hb1 hb2 hg3 hat3 hat2))
        | (go_at_call 9; go_must (refine (answers _).mono ?_; rintro e w4 ⟨rfl, hb4⟩; have hS4 := hS.below hb4; have hu4 := hu.trans (hb4.mono hu.size); clear hS hu; have hS := hS4; have hu := hu4; clear hS4 hu4 hb4; have c0 := hS.c0))
        | (go_at_call 10; have _t := K1; clear _t; go_must (refine (sendN hS a b q OK.out.1 (by decide) false rfl).mono ?_; clear K1 c0; rintro e w5 ⟨rfl, hS', hb'⟩; have hu' := hu.trans hb'; clear hS hu hb'; have hS := hS'; have hu := hu'; clear hS' hu'; have c0 := hS.c0))
        | (go_at_call 13; have _t := K2; clear _t; go_must (have PK := cutN hS a b q true OK.out.2 (by decide); rw [HC.out] at PK; refine PK.mono ?_; clear PK K2 c0; rintro e w6 ⟨rfl, hS', hb'⟩; have hu' := hu.trans hb'; clear hS hu hb'; have hS := hS'; have hu := hu'; clear hS' hu'; have c0 := hS.c0))
        | (go_at_call 10; have _t := K3; clear _t; go_must (refine (sendN hS a b q OK.out.1 (by decide) true E2.out).mono ?_; clear K3 c0; rintro e w7 ⟨rfl, hS', hb'⟩; have hu' := hu.trans hb'; clear hS hu hb'; have hS := hS'; have hu := hu'; clear hS' hu'; have c0 := hS.c0))
        | (go_at_call 10; have _t := K4; clear _t; go_must (refine (sendN hS a b (1 - q) OK4.out.1 (by decide) false E3.out).mono ?_; clear K4 c0; rintro e w8 ⟨rfl, hS', hb'⟩; have hu' := hu.trans hb'; clear hS hu hb'; have hS := hS'; have hu := hu'; clear hS' hu'; have c0 := hS.c0))
        | (go_at_call 10; have _t := K5; clear _t; go_must (refine (sendN hS b a q OK5.out.1 (by decide) false E4.out).mono ?_; clear K5 c0; rintro e w9 ⟨rfl, hS', hb'⟩; have hu' := hu.trans hb'; clear hS hu hb'; have hS := hS'; have hu := hu'; clear hS' hu'; have c0 := hS.c0))
        | (go_at_call 10; have _t := K6; clear _t; go_must (refine (sendN hS a c q OK6.out.1 (by decide) false E5.out).mono ?_; clear K6 c0; rintro e w10 ⟨rfl, hS', hb'⟩; have hu' := hu.trans hb'; clear hS hu hb'; have hS := hS'; have hu := hu'; clear hS' hu'; have c0 := hS.c0))
        | (go_at_call 14; go_must (refine (takeN hS).mono ?_; clear c0; rintro e w11 ⟨⟨ff, pp, ll, cc, rfl⟩, hS', hb'⟩; have hu' := hu.trans hb'; clear hS hu hb'; have hS := hS'; have hu := hu'; clear hS' hu'; have c0 := hS.c0))
        | ((with_reducible refine wpl_allocAt rfl 35 rfl zero35 (by kernel_rfl) ?_); go_must (intro w12 hat12 hb12 hs12; clear hs12))
        | ((with_reducible refine wpl_storeR rfl 35 (.tmp 16) (.tmp 104) rfl rfl w11.heap.size 35 zero35 (rowF ff (.slice pp ll cc)).toArray ?_ ?_ hat12 (by kernel_rfl) ?_ ?_ ?_); rfl; rfl; rfl; (simp [rowF, Value.oneCell']); go_must (intro w13 hat13 hg13; have hb13 := below_grown hb12 hg13 hb12.size (Nat.le_refl _); have hS' := hS.below hb13; have hu' := hu.trans (hb13.mono hu.size); clear hS hu hb13 hb12 hat12 hat13 hg13 c0; have hS := hS'; have hu := hu'; clear hS' hu'; have c0 := hS.c0))
        | (go_at_call 13; have _t := K7; clear _t; go_must (refine (cutN hS a b q false OK.out.2 (by decide)).mono ?_; clear K7 c0; rintro e w14 ⟨rfl, hS', hb'⟩; have hu' := hu.trans hb'; clear hS hu hb'; have hS := hS'; have hu := hu'; clear hS' hu'; have c0 := hS.c0))
        | (go_at_call 10; have _t := K8; clear _t; go_must (refine (sendN hS a b q OK.out.1 (by decide) false E6.out).mono ?_; clear K8 c0; rintro e w15 ⟨rfl, hS', hb'⟩; have hu' := hu.trans hb'; clear hS hu hb'; have hS := hS'; have hu := hu'; clear hS' hu'; have c0 := hS.c0)))
        go_ret
        exact ⟨rfl, hu⟩
end Go.Proofs.Ytmdhpjbahenbhaa.Net
