/-
  Contracts: a call of both nets (act), each kind by itself.
-/
import Derived.Test.YtmdhpjbahenbhaaAct0
namespace Go.Proofs.Ytmdhpjbahenbhaa.Net
open Go.RowKit Mem Cells Ops Go.Maps
set_option linter.unusedVariables false
set_option linter.unusedSimpArgs false

/-- What act leaves. -/
def ActPost (Z : Nat → Prop) (S R : Nat) (hosts : Int) (fs : List F) (cut : Int → Int → Int → Bool) (n : Nat) (w : World) (e : Ending) (w' : World) : Prop := e = .returned (.bool true) ∧ Two Z w' S R hosts fs fs cut cut n ∧ ButX (fun k => ¬ Z k) w w'
set_option maxRecDepth 100000 in
set_option maxHeartbeats 1600000 in
theorem act3 {Z : Nat → Prop} {w : World} {S R : Nat} {hosts : Int} {fs : List F} {cut : Int → Int → Int → Bool} {n : Nat} (h : Two Z w S R hosts fs fs cut cut n) (a0 : A) (d : Value) (hk : a0.kind = 3) (hd : d.oneCell' = true) :
    Calls Try.prog 16 #[.pointer (some ⟨S, 0, none⟩), .pointer (some ⟨R, 0, none⟩), .agg (rowA a0 d)] w (ActPost Z S R hosts (twinL fs a0.k) cut n w) := by
  have H := Lib.hid h
  have c0' : (3 : Int) = a0.kind := hk.symm
  have HK := Lib.hid hk
  clear h hk c0'
  go_enter Try.func16, Try.ntmps16
  go_upto_region 9 with (first
    | ((with_reducible refine wpl_boxAt rfl 52 (.tmp 2) rfl (rowA a0 d) ?_ ?_); rfl; go_must (intro w1 hat1 hb1 hs1; have HT := Lib.hid (And.intro (H.out.new hb1) hb1); have hc0 := hat1.cell 0; have hc1 := hat1.cell 1; simp [rowA] at hc0 hc1; rw [HK.out] at hc0; have lt1 := hat1.lt; clear hs1 hb1)))
  have hz : more Z w w1 w.heap.size := .inr ⟨Nat.le_refl _, lt1⟩
  refine MonoJ.wp_region_J [some 60, some 61, some 62, some 63, some 64, some 65, some 66, some 67, some 68, some 6] [.pointer (some ⟨S, 0, none⟩), .pointer (some ⟨w.heap.size, 1, none⟩), .int .i64 a0.k, .int .i64 (twinE fs a0.k), .pointer (some ⟨R, 0, none⟩), .pointer (some ⟨w.heap.size, 1, none⟩), .int .i64 a0.k, .int .i64 (twinE fs a0.k), .bool true, .bool true] (JT (more Z w w1) w1 S R hosts fs (twinL fs a0.k) cut cut n n 3 7) (by kernel_rfl) (by kernel_rfl) (by kernel_rfl) ?_ ?_ ?_
  · exact JT.start HT.out.1 _
  · simp only [MonoJ.OpGoals, and_true]
    refine ⟨?_, ?_, ?_, ?_, ?_, ?_, ?_, ?_, ?_, ?_⟩
    · intro l a x hJ hsz hjn hdep hsame hval
      have c1 := (But.cell (j := 1) hJ.but hz lt1).trans hc1
      have z0 : a.eval (.tmp 0) = .pointer (some ⟨S, 0, none⟩) := hsame 0 (by decide)
      simp [Act.eval] at z0
      exact wp_val (.pointer (some ⟨S, 0, none⟩)) x (by simp [execOp, z0, go_sem, c1]) ⟨rfl, hJ.pure 0 (by decide) (by decide)⟩
    · intro l a x hJ hsz hjn hdep hsame hval
      have c1 := (But.cell (j := 1) hJ.but hz lt1).trans hc1
      have z5 : a.eval (.tmp 5) = .pointer (some ⟨w.heap.size, 0, none⟩) := hsame 5 (by decide)
      simp [Act.eval] at z5
      exact wp_val (.pointer (some ⟨w.heap.size, 1, none⟩)) x (by simp [execOp, z5, go_sem, c1]) ⟨rfl, hJ.pure 1 (by decide) (by decide)⟩
    · intro l a x hJ hsz hjn hdep hsame hval
      have c1 := (But.cell (j := 1) hJ.but hz lt1).trans hc1
      have z61 : a.eval (.tmp 61) = .pointer (some ⟨w.heap.size, 1, none⟩) := hval 1 61 (hdep ⟨1, .data⟩ (by simp) rfl) rfl
      simp [Act.eval] at z61
      exact wp_val (.int .i64 a0.k) x (by simp [execOp, z61, go_sem, c1]) ⟨rfl, hJ.pure 2 (by decide) (by decide)⟩
    · intro l a x hJ hsz hjn hdep hsame hval
      have c1 := (But.cell (j := 1) hJ.but hz lt1).trans hc1
      have z60 : a.eval (.tmp 60) = .pointer (some ⟨S, 0, none⟩) := hval 0 60 (hdep ⟨0, .data⟩ (by simp) rfl) rfl
      have z62 : a.eval (.tmp 62) = .int .i64 a0.k := hval 2 62 (hdep ⟨2, .data⟩ (by simp) rfl) rfl
      simp [Act.eval] at z60 z62
      obtain ⟨X, Y, hp⟩ := hJ.at1 hjn
      exact wp_callF 15 _ _ rfl #[.pointer (some ⟨S, 0, none⟩), .int .i64 a0.k] (by simp [execOp, z60, z62, go_sem]) ((twinX hp.net a0.k).mono fun e y ⟨h1, h2, h3⟩ => ⟨_, h1, rfl, hJ.put1 (by rw [hsz]; decide) (by decide) (hp.left h2 h3)⟩)
    · intro l a x hJ hsz hjn hdep hsame hval
      have c1 := (But.cell (j := 1) hJ.but hz lt1).trans hc1
      have z1 : a.eval (.tmp 1) = .pointer (some ⟨R, 0, none⟩) := hsame 1 (by decide)
      simp [Act.eval] at z1
      exact wp_val (.pointer (some ⟨R, 0, none⟩)) x (by simp [execOp, z1, go_sem, c1]) ⟨rfl, hJ.pure 4 (by decide) (by decide)⟩
    · intro l a x hJ hsz hjn hdep hsame hval
      have c1 := (But.cell (j := 1) hJ.but hz lt1).trans hc1
      have z5 : a.eval (.tmp 5) = .pointer (some ⟨w.heap.size, 0, none⟩) := hsame 5 (by decide)
      simp [Act.eval] at z5
      exact wp_val (.pointer (some ⟨w.heap.size, 1, none⟩)) x (by simp [execOp, z5, go_sem, c1]) ⟨rfl, hJ.pure 5 (by decide) (by decide)⟩
    · intro l a x hJ hsz hjn hdep hsame hval
      have c1 := (But.cell (j := 1) hJ.but hz lt1).trans hc1
      have z65 : a.eval (.tmp 65) = .pointer (some ⟨w.heap.size, 1, none⟩) := hval 5 65 (hdep ⟨5, .data⟩ (by simp) rfl) rfl
      simp [Act.eval] at z65
      exact wp_val (.int .i64 a0.k) x (by simp [execOp, z65, go_sem, c1]) ⟨rfl, hJ.pure 6 (by decide) (by decide)⟩
    · intro l a x hJ hsz hjn hdep hsame hval
      have c1 := (But.cell (j := 1) hJ.but hz lt1).trans hc1
      have z64 : a.eval (.tmp 64) = .pointer (some ⟨R, 0, none⟩) := hval 4 64 (hdep ⟨4, .data⟩ (by simp) rfl) rfl
      have z66 : a.eval (.tmp 66) = .int .i64 a0.k := hval 6 66 (hdep ⟨6, .data⟩ (by simp) rfl) rfl
      simp [Act.eval] at z64 z66
      obtain ⟨X, Y, hp⟩ := hJ.at2 hjn
      exact wp_callF 29 _ _ rfl #[.pointer (some ⟨R, 0, none⟩), .int .i64 a0.k] (by simp [execOp, z64, z66, go_sem]) ((rTwinX hp.ref a0.k).mono fun e y ⟨h1, h2, h3⟩ => ⟨_, h1, rfl, hJ.put2 (by rw [hsz]; decide) (by decide) (hp.right h2 h3)⟩)
    · intro l a x hJ hsz hjn hdep hsame hval
      have c1 := (But.cell (j := 1) hJ.but hz lt1).trans hc1
      have z63 : a.eval (.tmp 63) = .int .i64 (twinE fs a0.k) := hval 3 63 (hdep ⟨3, .data⟩ (by simp) rfl) rfl
      have z67 : a.eval (.tmp 67) = .int .i64 (twinE fs a0.k) := hval 7 67 (hdep ⟨7, .data⟩ (by simp) rfl) rfl
      simp [Act.eval] at z63 z67
      exact wp_val (.bool true) x (by simp [execOp, z63, z67, go_sem, c1]) ⟨rfl, hJ.pure 8 (by decide) (by decide)⟩
    · intro l a x hJ hsz hjn hdep hsame hval
      have c1 := (But.cell (j := 1) hJ.but hz lt1).trans hc1
      have z68 : a.eval (.tmp 68) = .bool true := hval 8 68 (hdep ⟨8, .data⟩ (by simp) rfl) rfl
      simp [Act.eval] at z68
      exact wp_val (.bool true) x (by simp [execOp, z68, go_sem, c1]) ⟨rfl, hJ.pure 9 (by decide) (by decide)⟩
  intro x hJ
  obtain ⟨h2, hb⟩ := JT.fin hJ (by decide) (by decide)
  simp [Act.put]
  go_wp2_with fail
  go_ret
  exact ⟨rfl, h2.less (fun k hk => .inl hk), ((ButX.ofBelow HT.out.2).mono (fun k hk => hk)).trans ((But.less hb (fun k hk => .inl hk)).mono more_self)⟩
set_option maxRecDepth 100000 in
set_option maxHeartbeats 1600000 in
theorem act4 {Z : Nat → Prop} {w : World} {S R : Nat} {hosts : Int} {fs : List F} {cut : Int → Int → Int → Bool} {n : Nat} (h : Two Z w S R hosts fs fs cut cut n) (a0 : A) (d : Value) (hk : a0.kind = 4) (hd : d.oneCell' = true) :
    Calls Try.prog 16 #[.pointer (some ⟨S, 0, none⟩), .pointer (some ⟨R, 0, none⟩), .agg (rowA a0 d)] w (ActPost Z S R hosts (lastL fs a0.k) cut n w) := by
  have H := Lib.hid h
  have HK := Lib.hid hk
  clear h hk
  go_enter Try.func16, Try.ntmps16
  go_upto_region 11 with (first
    | ((with_reducible refine wpl_boxAt rfl 52 (.tmp 2) rfl (rowA a0 d) ?_ ?_); rfl; go_must (intro w1 hat1 hb1 hs1; have HT := Lib.hid (And.intro (H.out.new hb1) hb1); have hc0 := hat1.cell 0; have hc1 := hat1.cell 1; simp [rowA] at hc0 hc1; rw [HK.out] at hc0; have lt1 := hat1.lt; clear hs1 hb1)))
  have hz : more Z w w1 w.heap.size := .inr ⟨Nat.le_refl _, lt1⟩
  refine MonoJ.wp_region_J [some 71, some 72, some 73, some 74, some 75, some 76, some 77, some 78, some 79, some 6] [.pointer (some ⟨S, 0, none⟩), .pointer (some ⟨w.heap.size, 1, none⟩), .int .i64 a0.k, .int .i64 (takeE fs a0.k), .pointer (some ⟨R, 0, none⟩), .pointer (some ⟨w.heap.size, 1, none⟩), .int .i64 a0.k, .int .i64 (takeE fs a0.k), .bool true, .bool true] (JT (more Z w w1) w1 S R hosts fs (lastL fs a0.k) cut cut n n 3 7) (by kernel_rfl) (by kernel_rfl) (by kernel_rfl) ?_ ?_ ?_
  · exact JT.start HT.out.1 _
  · simp only [MonoJ.OpGoals, and_true]
    refine ⟨?_, ?_, ?_, ?_, ?_, ?_, ?_, ?_, ?_, ?_⟩
    · intro l a x hJ hsz hjn hdep hsame hval
      have c1 := (But.cell (j := 1) hJ.but hz lt1).trans hc1
      have z0 : a.eval (.tmp 0) = .pointer (some ⟨S, 0, none⟩) := hsame 0 (by decide)
      simp [Act.eval] at z0
      exact wp_val (.pointer (some ⟨S, 0, none⟩)) x (by simp [execOp, z0, go_sem, c1]) ⟨rfl, hJ.pure 0 (by decide) (by decide)⟩
    · intro l a x hJ hsz hjn hdep hsame hval
      have c1 := (But.cell (j := 1) hJ.but hz lt1).trans hc1
      have z5 : a.eval (.tmp 5) = .pointer (some ⟨w.heap.size, 0, none⟩) := hsame 5 (by decide)
      simp [Act.eval] at z5
      exact wp_val (.pointer (some ⟨w.heap.size, 1, none⟩)) x (by simp [execOp, z5, go_sem, c1]) ⟨rfl, hJ.pure 1 (by decide) (by decide)⟩
    · intro l a x hJ hsz hjn hdep hsame hval
      have c1 := (But.cell (j := 1) hJ.but hz lt1).trans hc1
      have z72 : a.eval (.tmp 72) = .pointer (some ⟨w.heap.size, 1, none⟩) := hval 1 72 (hdep ⟨1, .data⟩ (by simp) rfl) rfl
      simp [Act.eval] at z72
      exact wp_val (.int .i64 a0.k) x (by simp [execOp, z72, go_sem, c1]) ⟨rfl, hJ.pure 2 (by decide) (by decide)⟩
    · intro l a x hJ hsz hjn hdep hsame hval
      have c1 := (But.cell (j := 1) hJ.but hz lt1).trans hc1
      have z71 : a.eval (.tmp 71) = .pointer (some ⟨S, 0, none⟩) := hval 0 71 (hdep ⟨0, .data⟩ (by simp) rfl) rfl
      have z73 : a.eval (.tmp 73) = .int .i64 a0.k := hval 2 73 (hdep ⟨2, .data⟩ (by simp) rfl) rfl
      simp [Act.eval] at z71 z73
      obtain ⟨X, Y, hp⟩ := hJ.at1 hjn
      exact wp_callF 20 _ _ rfl #[.pointer (some ⟨S, 0, none⟩), .int .i64 a0.k] (by simp [execOp, z71, z73, go_sem]) ((lastE hp.net a0.k).mono fun e y ⟨h1, h2, h3⟩ => ⟨_, h1, rfl, hJ.put1 (by rw [hsz]; decide) (by decide) (hp.left h2 h3)⟩)
    · intro l a x hJ hsz hjn hdep hsame hval
      have c1 := (But.cell (j := 1) hJ.but hz lt1).trans hc1
      have z1 : a.eval (.tmp 1) = .pointer (some ⟨R, 0, none⟩) := hsame 1 (by decide)
      simp [Act.eval] at z1
      exact wp_val (.pointer (some ⟨R, 0, none⟩)) x (by simp [execOp, z1, go_sem, c1]) ⟨rfl, hJ.pure 4 (by decide) (by decide)⟩
    · intro l a x hJ hsz hjn hdep hsame hval
      have c1 := (But.cell (j := 1) hJ.but hz lt1).trans hc1
      have z5 : a.eval (.tmp 5) = .pointer (some ⟨w.heap.size, 0, none⟩) := hsame 5 (by decide)
      simp [Act.eval] at z5
      exact wp_val (.pointer (some ⟨w.heap.size, 1, none⟩)) x (by simp [execOp, z5, go_sem, c1]) ⟨rfl, hJ.pure 5 (by decide) (by decide)⟩
    · intro l a x hJ hsz hjn hdep hsame hval
      have c1 := (But.cell (j := 1) hJ.but hz lt1).trans hc1
      have z76 : a.eval (.tmp 76) = .pointer (some ⟨w.heap.size, 1, none⟩) := hval 5 76 (hdep ⟨5, .data⟩ (by simp) rfl) rfl
      simp [Act.eval] at z76
      exact wp_val (.int .i64 a0.k) x (by simp [execOp, z76, go_sem, c1]) ⟨rfl, hJ.pure 6 (by decide) (by decide)⟩
    · intro l a x hJ hsz hjn hdep hsame hval
      have c1 := (But.cell (j := 1) hJ.but hz lt1).trans hc1
      have z75 : a.eval (.tmp 75) = .pointer (some ⟨R, 0, none⟩) := hval 4 75 (hdep ⟨4, .data⟩ (by simp) rfl) rfl
      have z77 : a.eval (.tmp 77) = .int .i64 a0.k := hval 6 77 (hdep ⟨6, .data⟩ (by simp) rfl) rfl
      simp [Act.eval] at z75 z77
      obtain ⟨X, Y, hp⟩ := hJ.at2 hjn
      exact wp_callF 30 _ _ rfl #[.pointer (some ⟨R, 0, none⟩), .int .i64 a0.k] (by simp [execOp, z75, z77, go_sem]) ((rLastX hp.ref a0.k).mono fun e y ⟨h1, h2, h3⟩ => ⟨_, h1, rfl, hJ.put2 (by rw [hsz]; decide) (by decide) (hp.right h2 h3)⟩)
    · intro l a x hJ hsz hjn hdep hsame hval
      have c1 := (But.cell (j := 1) hJ.but hz lt1).trans hc1
      have z74 : a.eval (.tmp 74) = .int .i64 (takeE fs a0.k) := hval 3 74 (hdep ⟨3, .data⟩ (by simp) rfl) rfl
      have z78 : a.eval (.tmp 78) = .int .i64 (takeE fs a0.k) := hval 7 78 (hdep ⟨7, .data⟩ (by simp) rfl) rfl
      simp [Act.eval] at z74 z78
      exact wp_val (.bool true) x (by simp [execOp, z74, z78, go_sem, c1]) ⟨rfl, hJ.pure 8 (by decide) (by decide)⟩
    · intro l a x hJ hsz hjn hdep hsame hval
      have c1 := (But.cell (j := 1) hJ.but hz lt1).trans hc1
      have z79 : a.eval (.tmp 79) = .bool true := hval 8 79 (hdep ⟨8, .data⟩ (by simp) rfl) rfl
      simp [Act.eval] at z79
      exact wp_val (.bool true) x (by simp [execOp, z79, go_sem, c1]) ⟨rfl, hJ.pure 9 (by decide) (by decide)⟩
  intro x hJ
  obtain ⟨h2, hb⟩ := JT.fin hJ (by decide) (by decide)
  simp [Act.put]
  go_wp2_with fail
  go_ret
  exact ⟨rfl, h2.less (fun k hk => .inl hk), ((ButX.ofBelow HT.out.2).mono (fun k hk => hk)).trans ((But.less hb (fun k hk => .inl hk)).mono more_self)⟩
set_option maxRecDepth 100000 in
set_option maxHeartbeats 1600000 in
theorem act5 {Z : Nat → Prop} {w : World} {S R : Nat} {hosts : Int} {fs : List F} {cut : Int → Int → Int → Bool} {n : Nat} (h : Two Z w S R hosts fs fs cut cut n) (a0 : A) (d : Value) (hk : a0.kind = 5) (hd : d.oneCell' = true) (hb : 0 ≤ a0.bits ∧ a0.bits ≤ 255) (ha : i64 a0.at_) :
    Calls Try.prog 16 #[.pointer (some ⟨S, 0, none⟩), .pointer (some ⟨R, 0, none⟩), .agg (rowA a0 d)] w (ActPost Z S R hosts (turnL fs a0.k a0.at_ a0.bits) cut n w) := by
  have H := Lib.hid h
  have HK := Lib.hid hk
  have HA := Lib.hid (And.intro hb (show -9223372036854775808 ≤ a0.at_ ∧ a0.at_ ≤ 9223372036854775807 from ha))
  clear hb ha
  clear h hk
  go_enter Try.func16, Try.ntmps16
  go_upto_region 13 with (first
    | ((with_reducible refine wpl_boxAt rfl 52 (.tmp 2) rfl (rowA a0 d) ?_ ?_); rfl; go_must (intro w1 hat1 hb1 hs1; have HT := Lib.hid (And.intro (H.out.new hb1) hb1); have hc0 := hat1.cell 0; have hc1 := hat1.cell 1; have hc2 := hat1.cell 2; have hc8 := hat1.cell 8; simp [rowA] at hc0 hc1 hc2 hc8; rw [HK.out] at hc0; have lt1 := hat1.lt; clear hs1 hb1)))
  have hz : more Z w w1 w.heap.size := .inr ⟨Nat.le_refl _, lt1⟩
  refine MonoJ.wp_region_J [some 82, some 83, some 84, some 85, some 86, some 87, some 88, some 89, some 90, some 91, some 92, some 93, some 94, some 95, some 96, some 97, some 98, some 6] [.pointer (some ⟨S, 0, none⟩), .pointer (some ⟨w.heap.size, 1, none⟩), .int .i64 a0.k, .pointer (some ⟨w.heap.size, 2, none⟩), .int .i64 a0.at_, .pointer (some ⟨w.heap.size, 8, none⟩), .int .u8 a0.bits, .int .i64 (turnE fs a0.k a0.at_ a0.bits), .pointer (some ⟨R, 0, none⟩), .pointer (some ⟨w.heap.size, 1, none⟩), .int .i64 a0.k, .pointer (some ⟨w.heap.size, 2, none⟩), .int .i64 a0.at_, .pointer (some ⟨w.heap.size, 8, none⟩), .int .u8 a0.bits, .int .i64 (turnE fs a0.k a0.at_ a0.bits), .bool true, .bool true] (JT (more Z w w1) w1 S R hosts fs (turnL fs a0.k a0.at_ a0.bits) cut cut n n 7 15) (by kernel_rfl) (by kernel_rfl) (by kernel_rfl) ?_ ?_ ?_
  · exact JT.start HT.out.1 _
  · simp only [MonoJ.OpGoals, and_true]
    refine ⟨?_, ?_, ?_, ?_, ?_, ?_, ?_, ?_, ?_, ?_, ?_, ?_, ?_, ?_, ?_, ?_, ?_, ?_⟩
    · intro l a x hJ hsz hjn hdep hsame hval
      have c1 := (But.cell (j := 1) hJ.but hz lt1).trans hc1; have c2 := (But.cell (j := 2) hJ.but hz lt1).trans hc2; have c8 := (But.cell (j := 8) hJ.but hz lt1).trans hc8
      have z0 : a.eval (.tmp 0) = .pointer (some ⟨S, 0, none⟩) := hsame 0 (by decide)
      simp [Act.eval] at z0
      exact wp_val (.pointer (some ⟨S, 0, none⟩)) x (by simp [execOp, z0, go_sem, c1, c2, c8]) ⟨rfl, hJ.pure 0 (by decide) (by decide)⟩
    · intro l a x hJ hsz hjn hdep hsame hval
      have c1 := (But.cell (j := 1) hJ.but hz lt1).trans hc1; have c2 := (But.cell (j := 2) hJ.but hz lt1).trans hc2; have c8 := (But.cell (j := 8) hJ.but hz lt1).trans hc8
      have z5 : a.eval (.tmp 5) = .pointer (some ⟨w.heap.size, 0, none⟩) := hsame 5 (by decide)
      simp [Act.eval] at z5
      exact wp_val (.pointer (some ⟨w.heap.size, 1, none⟩)) x (by simp [execOp, z5, go_sem, c1, c2, c8]) ⟨rfl, hJ.pure 1 (by decide) (by decide)⟩
    · intro l a x hJ hsz hjn hdep hsame hval
      have c1 := (But.cell (j := 1) hJ.but hz lt1).trans hc1; have c2 := (But.cell (j := 2) hJ.but hz lt1).trans hc2; have c8 := (But.cell (j := 8) hJ.but hz lt1).trans hc8
      have z83 : a.eval (.tmp 83) = .pointer (some ⟨w.heap.size, 1, none⟩) := hval 1 83 (hdep ⟨1, .data⟩ (by simp) rfl) rfl
      simp [Act.eval] at z83
      exact wp_val (.int .i64 a0.k) x (by simp [execOp, z83, go_sem, c1, c2, c8]) ⟨rfl, hJ.pure 2 (by decide) (by decide)⟩
    · intro l a x hJ hsz hjn hdep hsame hval
      have c1 := (But.cell (j := 1) hJ.but hz lt1).trans hc1; have c2 := (But.cell (j := 2) hJ.but hz lt1).trans hc2; have c8 := (But.cell (j := 8) hJ.but hz lt1).trans hc8
      have z5 : a.eval (.tmp 5) = .pointer (some ⟨w.heap.size, 0, none⟩) := hsame 5 (by decide)
      simp [Act.eval] at z5
      exact wp_val (.pointer (some ⟨w.heap.size, 2, none⟩)) x (by simp [execOp, z5, go_sem, c1, c2, c8]) ⟨rfl, hJ.pure 3 (by decide) (by decide)⟩
    · intro l a x hJ hsz hjn hdep hsame hval
      have c1 := (But.cell (j := 1) hJ.but hz lt1).trans hc1; have c2 := (But.cell (j := 2) hJ.but hz lt1).trans hc2; have c8 := (But.cell (j := 8) hJ.but hz lt1).trans hc8
      have z85 : a.eval (.tmp 85) = .pointer (some ⟨w.heap.size, 2, none⟩) := hval 3 85 (hdep ⟨3, .data⟩ (by simp) rfl) rfl
      simp [Act.eval] at z85
      exact wp_val (.int .i64 a0.at_) x (by simp [execOp, z85, go_sem, c1, c2, c8]) ⟨rfl, hJ.pure 4 (by decide) (by decide)⟩
    · intro l a x hJ hsz hjn hdep hsame hval
      have c1 := (But.cell (j := 1) hJ.but hz lt1).trans hc1; have c2 := (But.cell (j := 2) hJ.but hz lt1).trans hc2; have c8 := (But.cell (j := 8) hJ.but hz lt1).trans hc8
      have z5 : a.eval (.tmp 5) = .pointer (some ⟨w.heap.size, 0, none⟩) := hsame 5 (by decide)
      simp [Act.eval] at z5
      exact wp_val (.pointer (some ⟨w.heap.size, 8, none⟩)) x (by simp [execOp, z5, go_sem, c1, c2, c8]) ⟨rfl, hJ.pure 5 (by decide) (by decide)⟩
    · intro l a x hJ hsz hjn hdep hsame hval
      have c1 := (But.cell (j := 1) hJ.but hz lt1).trans hc1; have c2 := (But.cell (j := 2) hJ.but hz lt1).trans hc2; have c8 := (But.cell (j := 8) hJ.but hz lt1).trans hc8
      have z87 : a.eval (.tmp 87) = .pointer (some ⟨w.heap.size, 8, none⟩) := hval 5 87 (hdep ⟨5, .data⟩ (by simp) rfl) rfl
      simp [Act.eval] at z87
      exact wp_val (.int .u8 a0.bits) x (by simp [execOp, z87, go_sem, c1, c2, c8]) ⟨rfl, hJ.pure 6 (by decide) (by decide)⟩
    · intro l a x hJ hsz hjn hdep hsame hval
      have c1 := (But.cell (j := 1) hJ.but hz lt1).trans hc1; have c2 := (But.cell (j := 2) hJ.but hz lt1).trans hc2; have c8 := (But.cell (j := 8) hJ.but hz lt1).trans hc8
      have z82 : a.eval (.tmp 82) = .pointer (some ⟨S, 0, none⟩) := hval 0 82 (hdep ⟨0, .data⟩ (by simp) rfl) rfl
      have z84 : a.eval (.tmp 84) = .int .i64 a0.k := hval 2 84 (hdep ⟨2, .data⟩ (by simp) rfl) rfl
      have z86 : a.eval (.tmp 86) = .int .i64 a0.at_ := hval 4 86 (hdep ⟨4, .data⟩ (by simp) rfl) rfl
      have z88 : a.eval (.tmp 88) = .int .u8 a0.bits := hval 6 88 (hdep ⟨6, .data⟩ (by simp) rfl) rfl
      simp [Act.eval] at z82 z84 z86 z88
      obtain ⟨X, Y, hp⟩ := hJ.at1 hjn
      exact wp_callF 19 _ _ rfl #[.pointer (some ⟨S, 0, none⟩), .int .i64 a0.k, .int .i64 a0.at_, .int .u8 a0.bits] (by simp [execOp, z82, z84, z86, z88, go_sem]) ((TurnX hp.net a0.k a0.at_ a0.bits HA.out.1 HA.out.2).mono fun e y ⟨h1, h2, h3⟩ => ⟨_, h1, rfl, hJ.put1 (by rw [hsz]; decide) (by decide) (hp.left (h2.mono more_self) h3)⟩)
    · intro l a x hJ hsz hjn hdep hsame hval
      have c1 := (But.cell (j := 1) hJ.but hz lt1).trans hc1; have c2 := (But.cell (j := 2) hJ.but hz lt1).trans hc2; have c8 := (But.cell (j := 8) hJ.but hz lt1).trans hc8
      have z1 : a.eval (.tmp 1) = .pointer (some ⟨R, 0, none⟩) := hsame 1 (by decide)
      simp [Act.eval] at z1
      exact wp_val (.pointer (some ⟨R, 0, none⟩)) x (by simp [execOp, z1, go_sem, c1, c2, c8]) ⟨rfl, hJ.pure 8 (by decide) (by decide)⟩
    · intro l a x hJ hsz hjn hdep hsame hval
      have c1 := (But.cell (j := 1) hJ.but hz lt1).trans hc1; have c2 := (But.cell (j := 2) hJ.but hz lt1).trans hc2; have c8 := (But.cell (j := 8) hJ.but hz lt1).trans hc8
      have z5 : a.eval (.tmp 5) = .pointer (some ⟨w.heap.size, 0, none⟩) := hsame 5 (by decide)
      simp [Act.eval] at z5
      exact wp_val (.pointer (some ⟨w.heap.size, 1, none⟩)) x (by simp [execOp, z5, go_sem, c1, c2, c8]) ⟨rfl, hJ.pure 9 (by decide) (by decide)⟩
    · intro l a x hJ hsz hjn hdep hsame hval
      have c1 := (But.cell (j := 1) hJ.but hz lt1).trans hc1; have c2 := (But.cell (j := 2) hJ.but hz lt1).trans hc2; have c8 := (But.cell (j := 8) hJ.but hz lt1).trans hc8
      have z91 : a.eval (.tmp 91) = .pointer (some ⟨w.heap.size, 1, none⟩) := hval 9 91 (hdep ⟨9, .data⟩ (by simp) rfl) rfl
      simp [Act.eval] at z91
      exact wp_val (.int .i64 a0.k) x (by simp [execOp, z91, go_sem, c1, c2, c8]) ⟨rfl, hJ.pure 10 (by decide) (by decide)⟩
    · intro l a x hJ hsz hjn hdep hsame hval
      have c1 := (But.cell (j := 1) hJ.but hz lt1).trans hc1; have c2 := (But.cell (j := 2) hJ.but hz lt1).trans hc2; have c8 := (But.cell (j := 8) hJ.but hz lt1).trans hc8
      have z5 : a.eval (.tmp 5) = .pointer (some ⟨w.heap.size, 0, none⟩) := hsame 5 (by decide)
      simp [Act.eval] at z5
      exact wp_val (.pointer (some ⟨w.heap.size, 2, none⟩)) x (by simp [execOp, z5, go_sem, c1, c2, c8]) ⟨rfl, hJ.pure 11 (by decide) (by decide)⟩
    · intro l a x hJ hsz hjn hdep hsame hval
      have c1 := (But.cell (j := 1) hJ.but hz lt1).trans hc1; have c2 := (But.cell (j := 2) hJ.but hz lt1).trans hc2; have c8 := (But.cell (j := 8) hJ.but hz lt1).trans hc8
      have z93 : a.eval (.tmp 93) = .pointer (some ⟨w.heap.size, 2, none⟩) := hval 11 93 (hdep ⟨11, .data⟩ (by simp) rfl) rfl
      simp [Act.eval] at z93
      exact wp_val (.int .i64 a0.at_) x (by simp [execOp, z93, go_sem, c1, c2, c8]) ⟨rfl, hJ.pure 12 (by decide) (by decide)⟩
    · intro l a x hJ hsz hjn hdep hsame hval
      have c1 := (But.cell (j := 1) hJ.but hz lt1).trans hc1; have c2 := (But.cell (j := 2) hJ.but hz lt1).trans hc2; have c8 := (But.cell (j := 8) hJ.but hz lt1).trans hc8
      have z5 : a.eval (.tmp 5) = .pointer (some ⟨w.heap.size, 0, none⟩) := hsame 5 (by decide)
      simp [Act.eval] at z5
      exact wp_val (.pointer (some ⟨w.heap.size, 8, none⟩)) x (by simp [execOp, z5, go_sem, c1, c2, c8]) ⟨rfl, hJ.pure 13 (by decide) (by decide)⟩
    · intro l a x hJ hsz hjn hdep hsame hval
      have c1 := (But.cell (j := 1) hJ.but hz lt1).trans hc1; have c2 := (But.cell (j := 2) hJ.but hz lt1).trans hc2; have c8 := (But.cell (j := 8) hJ.but hz lt1).trans hc8
      have z95 : a.eval (.tmp 95) = .pointer (some ⟨w.heap.size, 8, none⟩) := hval 13 95 (hdep ⟨13, .data⟩ (by simp) rfl) rfl
      simp [Act.eval] at z95
      exact wp_val (.int .u8 a0.bits) x (by simp [execOp, z95, go_sem, c1, c2, c8]) ⟨rfl, hJ.pure 14 (by decide) (by decide)⟩
    · intro l a x hJ hsz hjn hdep hsame hval
      have c1 := (But.cell (j := 1) hJ.but hz lt1).trans hc1; have c2 := (But.cell (j := 2) hJ.but hz lt1).trans hc2; have c8 := (But.cell (j := 8) hJ.but hz lt1).trans hc8
      have z90 : a.eval (.tmp 90) = .pointer (some ⟨R, 0, none⟩) := hval 8 90 (hdep ⟨8, .data⟩ (by simp) rfl) rfl
      have z92 : a.eval (.tmp 92) = .int .i64 a0.k := hval 10 92 (hdep ⟨10, .data⟩ (by simp) rfl) rfl
      have z94 : a.eval (.tmp 94) = .int .i64 a0.at_ := hval 12 94 (hdep ⟨12, .data⟩ (by simp) rfl) rfl
      have z96 : a.eval (.tmp 96) = .int .u8 a0.bits := hval 14 96 (hdep ⟨14, .data⟩ (by simp) rfl) rfl
      simp [Act.eval] at z90 z92 z94 z96
      obtain ⟨X, Y, hp⟩ := hJ.at2 hjn
      exact wp_callF 31 _ _ rfl #[.pointer (some ⟨R, 0, none⟩), .int .i64 a0.k, .int .i64 a0.at_, .int .u8 a0.bits] (by simp [execOp, z90, z92, z94, z96, go_sem]) ((rTurnX hp.ref a0.k a0.at_ a0.bits HA.out.1 HA.out.2).mono fun e y ⟨h1, h2, h3⟩ => ⟨_, h1, rfl, hJ.put2 (by rw [hsz]; decide) (by decide) (hp.right (h2.mono more_self) h3)⟩)
    · intro l a x hJ hsz hjn hdep hsame hval
      have c1 := (But.cell (j := 1) hJ.but hz lt1).trans hc1; have c2 := (But.cell (j := 2) hJ.but hz lt1).trans hc2; have c8 := (But.cell (j := 8) hJ.but hz lt1).trans hc8
      have z89 : a.eval (.tmp 89) = .int .i64 (turnE fs a0.k a0.at_ a0.bits) := hval 7 89 (hdep ⟨7, .data⟩ (by simp) rfl) rfl
      have z97 : a.eval (.tmp 97) = .int .i64 (turnE fs a0.k a0.at_ a0.bits) := hval 15 97 (hdep ⟨15, .data⟩ (by simp) rfl) rfl
      simp [Act.eval] at z89 z97
      exact wp_val (.bool true) x (by simp [execOp, z89, z97, go_sem, c1, c2, c8]) ⟨rfl, hJ.pure 16 (by decide) (by decide)⟩
    · intro l a x hJ hsz hjn hdep hsame hval
      have c1 := (But.cell (j := 1) hJ.but hz lt1).trans hc1; have c2 := (But.cell (j := 2) hJ.but hz lt1).trans hc2; have c8 := (But.cell (j := 8) hJ.but hz lt1).trans hc8
      have z98 : a.eval (.tmp 98) = .bool true := hval 16 98 (hdep ⟨16, .data⟩ (by simp) rfl) rfl
      simp [Act.eval] at z98
      exact wp_val (.bool true) x (by simp [execOp, z98, go_sem, c1, c2, c8]) ⟨rfl, hJ.pure 17 (by decide) (by decide)⟩
  intro x hJ
  obtain ⟨h2, hb⟩ := JT.fin hJ (by decide) (by decide)
  simp [Act.put]
  go_wp2_with fail
  go_ret
  exact ⟨rfl, h2.less (fun k hk => .inl hk), ((ButX.ofBelow HT.out.2).mono (fun k hk => hk)).trans ((But.less hb (fun k hk => .inl hk)).mono more_self)⟩
set_option maxRecDepth 100000 in
set_option maxHeartbeats 1600000 in
theorem act6 {Z : Nat → Prop} {w : World} {S R : Nat} {hosts : Int} {fs : List F} {cut : Int → Int → Int → Bool} {n : Nat} (h : Two Z w S R hosts fs fs cut cut n) (a0 : A) (d : Value) (hk : a0.kind = 6) (hd : d.oneCell' = true) (hn : n < 1000000) :
    Calls Try.prog 16 #[.pointer (some ⟨S, 0, none⟩), .pointer (some ⟨R, 0, none⟩), .agg (rowA a0 d)] w (ActPost Z S R hosts fs (if cutArg hosts a0.fh a0.th a0.fp = true then cutF cut a0.fh a0.th a0.fp a0.down else cut) (if cutArg hosts a0.fh a0.th a0.fp = true then n + 1 else n) w) := by
  have H := Lib.hid h
  have HK := Lib.hid hk
  have PL := Lib.hid (fun X u (hp : Net X u S hosts fs cut n) => cutX hp a0.fh a0.th a0.fp a0.down hn)
  have PR := Lib.hid (fun X u (hp : RNet X u R hosts fs cut) => rCutX hp a0.fh a0.th a0.fp a0.down)
  obtain ⟨r, hr⟩ : ∃ r : Int, (if cutArg hosts a0.fh a0.th a0.fp = true then 0 else 1) = r := ⟨_, rfl⟩
  obtain ⟨ct, hct⟩ : ∃ ct, (if cutArg hosts a0.fh a0.th a0.fp = true then cutF cut a0.fh a0.th a0.fp a0.down else cut) = ct := ⟨_, rfl⟩
  obtain ⟨nn, hnn⟩ : ∃ nn, (if cutArg hosts a0.fh a0.th a0.fp = true then n + 1 else n) = nn := ⟨_, rfl⟩
  simp only [hr, hct, hnn] at PL PR ⊢
  clear hn hr hct hnn
  clear h hk
  go_enter Try.func16, Try.ntmps16
  go_upto_region 15 with (first
    | ((with_reducible refine wpl_boxAt rfl 52 (.tmp 2) rfl (rowA a0 d) ?_ ?_); rfl; go_must (intro w1 hat1 hb1 hs1; have HT := Lib.hid (And.intro (H.out.new hb1) hb1); have hc0 := hat1.cell 0; have hc3 := hat1.cell 3; have hc4 := hat1.cell 4; have hc5 := hat1.cell 5; have hc9 := hat1.cell 9; simp [rowA] at hc0 hc3 hc4 hc5 hc9; rw [HK.out] at hc0; have lt1 := hat1.lt; clear hs1 hb1)))
  have hz : more Z w w1 w.heap.size := .inr ⟨Nat.le_refl _, lt1⟩
  refine MonoJ.wp_region_J [some 101, some 102, some 103, some 104, some 105, some 106, some 107, some 108, some 109, some 110, some 111, some 112, some 113, some 114, some 115, some 116, some 117, some 118, some 119, some 120, some 121, some 122, some 123, some 124, some 125, some 126, some 127, some 6] [.pointer (some ⟨S, 0, none⟩), .pointer (some ⟨w.heap.size, 3, none⟩), .pointer (some ⟨w.heap.size, 3, none⟩), .int .i64 a0.fh, .pointer (some ⟨w.heap.size, 5, none⟩), .pointer (some ⟨w.heap.size, 5, none⟩), .int .i64 a0.th, .pointer (some ⟨w.heap.size, 3, none⟩), .pointer (some ⟨w.heap.size, 4, none⟩), .int .i64 a0.fp, .pointer (some ⟨w.heap.size, 9, none⟩), .bool a0.down, .int .i64 r, .pointer (some ⟨R, 0, none⟩), .pointer (some ⟨w.heap.size, 3, none⟩), .pointer (some ⟨w.heap.size, 3, none⟩), .int .i64 a0.fh, .pointer (some ⟨w.heap.size, 5, none⟩), .pointer (some ⟨w.heap.size, 5, none⟩), .int .i64 a0.th, .pointer (some ⟨w.heap.size, 3, none⟩), .pointer (some ⟨w.heap.size, 4, none⟩), .int .i64 a0.fp, .pointer (some ⟨w.heap.size, 9, none⟩), .bool a0.down, .int .i64 r, .bool true, .bool true] (JT (more Z w w1) w1 S R hosts fs fs cut ct n nn 12 25) (by kernel_rfl) (by kernel_rfl) (by kernel_rfl) ?_ ?_ ?_
  · exact JT.start HT.out.1 _
  · simp only [MonoJ.OpGoals, and_true]
    refine ⟨?_, ?_, ?_, ?_, ?_, ?_, ?_, ?_, ?_, ?_, ?_, ?_, ?_, ?_, ?_, ?_, ?_, ?_, ?_, ?_, ?_, ?_, ?_, ?_, ?_, ?_, ?_, ?_⟩
    · intro l a x hJ hsz hjn hdep hsame hval
      have c3 := (But.cell (j := 3) hJ.but hz lt1).trans hc3; have c4 := (But.cell (j := 4) hJ.but hz lt1).trans hc4; have c5 := (But.cell (j := 5) hJ.but hz lt1).trans hc5; have c9 := (But.cell (j := 9) hJ.but hz lt1).trans hc9
      have z0 : a.eval (.tmp 0) = .pointer (some ⟨S, 0, none⟩) := hsame 0 (by decide)
      simp [Act.eval] at z0
      exact wp_val (.pointer (some ⟨S, 0, none⟩)) x (by simp [execOp, z0, go_sem, c3, c4, c5, c9]) ⟨rfl, hJ.pure 0 (by decide) (by decide)⟩
    · intro l a x hJ hsz hjn hdep hsame hval
      have c3 := (But.cell (j := 3) hJ.but hz lt1).trans hc3; have c4 := (But.cell (j := 4) hJ.but hz lt1).trans hc4; have c5 := (But.cell (j := 5) hJ.but hz lt1).trans hc5; have c9 := (But.cell (j := 9) hJ.but hz lt1).trans hc9
      have z5 : a.eval (.tmp 5) = .pointer (some ⟨w.heap.size, 0, none⟩) := hsame 5 (by decide)
      simp [Act.eval] at z5
      exact wp_val (.pointer (some ⟨w.heap.size, 3, none⟩)) x (by simp [execOp, z5, go_sem, c3, c4, c5, c9]) ⟨rfl, hJ.pure 1 (by decide) (by decide)⟩
    · intro l a x hJ hsz hjn hdep hsame hval
      have c3 := (But.cell (j := 3) hJ.but hz lt1).trans hc3; have c4 := (But.cell (j := 4) hJ.but hz lt1).trans hc4; have c5 := (But.cell (j := 5) hJ.but hz lt1).trans hc5; have c9 := (But.cell (j := 9) hJ.but hz lt1).trans hc9
      have z102 : a.eval (.tmp 102) = .pointer (some ⟨w.heap.size, 3, none⟩) := hval 1 102 (hdep ⟨1, .data⟩ (by simp) rfl) rfl
      simp [Act.eval] at z102
      exact wp_val (.pointer (some ⟨w.heap.size, 3, none⟩)) x (by simp [execOp, z102, go_sem, c3, c4, c5, c9]) ⟨rfl, hJ.pure 2 (by decide) (by decide)⟩
    · intro l a x hJ hsz hjn hdep hsame hval
      have c3 := (But.cell (j := 3) hJ.but hz lt1).trans hc3; have c4 := (But.cell (j := 4) hJ.but hz lt1).trans hc4; have c5 := (But.cell (j := 5) hJ.but hz lt1).trans hc5; have c9 := (But.cell (j := 9) hJ.but hz lt1).trans hc9
      have z103 : a.eval (.tmp 103) = .pointer (some ⟨w.heap.size, 3, none⟩) := hval 2 103 (hdep ⟨2, .data⟩ (by simp) rfl) rfl
      simp [Act.eval] at z103
      exact wp_val (.int .i64 a0.fh) x (by simp [execOp, z103, go_sem, c3, c4, c5, c9]) ⟨rfl, hJ.pure 3 (by decide) (by decide)⟩
    · intro l a x hJ hsz hjn hdep hsame hval
      have c3 := (But.cell (j := 3) hJ.but hz lt1).trans hc3; have c4 := (But.cell (j := 4) hJ.but hz lt1).trans hc4; have c5 := (But.cell (j := 5) hJ.but hz lt1).trans hc5; have c9 := (But.cell (j := 9) hJ.but hz lt1).trans hc9
      have z5 : a.eval (.tmp 5) = .pointer (some ⟨w.heap.size, 0, none⟩) := hsame 5 (by decide)
      simp [Act.eval] at z5
      exact wp_val (.pointer (some ⟨w.heap.size, 5, none⟩)) x (by simp [execOp, z5, go_sem, c3, c4, c5, c9]) ⟨rfl, hJ.pure 4 (by decide) (by decide)⟩
    · intro l a x hJ hsz hjn hdep hsame hval
      have c3 := (But.cell (j := 3) hJ.but hz lt1).trans hc3; have c4 := (But.cell (j := 4) hJ.but hz lt1).trans hc4; have c5 := (But.cell (j := 5) hJ.but hz lt1).trans hc5; have c9 := (But.cell (j := 9) hJ.but hz lt1).trans hc9
      have z105 : a.eval (.tmp 105) = .pointer (some ⟨w.heap.size, 5, none⟩) := hval 4 105 (hdep ⟨4, .data⟩ (by simp) rfl) rfl
      simp [Act.eval] at z105
      exact wp_val (.pointer (some ⟨w.heap.size, 5, none⟩)) x (by simp [execOp, z105, go_sem, c3, c4, c5, c9]) ⟨rfl, hJ.pure 5 (by decide) (by decide)⟩
    · intro l a x hJ hsz hjn hdep hsame hval
      have c3 := (But.cell (j := 3) hJ.but hz lt1).trans hc3; have c4 := (But.cell (j := 4) hJ.but hz lt1).trans hc4; have c5 := (But.cell (j := 5) hJ.but hz lt1).trans hc5; have c9 := (But.cell (j := 9) hJ.but hz lt1).trans hc9
      have z106 : a.eval (.tmp 106) = .pointer (some ⟨w.heap.size, 5, none⟩) := hval 5 106 (hdep ⟨5, .data⟩ (by simp) rfl) rfl
      simp [Act.eval] at z106
      exact wp_val (.int .i64 a0.th) x (by simp [execOp, z106, go_sem, c3, c4, c5, c9]) ⟨rfl, hJ.pure 6 (by decide) (by decide)⟩
    · intro l a x hJ hsz hjn hdep hsame hval
      have c3 := (But.cell (j := 3) hJ.but hz lt1).trans hc3; have c4 := (But.cell (j := 4) hJ.but hz lt1).trans hc4; have c5 := (But.cell (j := 5) hJ.but hz lt1).trans hc5; have c9 := (But.cell (j := 9) hJ.but hz lt1).trans hc9
      have z5 : a.eval (.tmp 5) = .pointer (some ⟨w.heap.size, 0, none⟩) := hsame 5 (by decide)
      simp [Act.eval] at z5
      exact wp_val (.pointer (some ⟨w.heap.size, 3, none⟩)) x (by simp [execOp, z5, go_sem, c3, c4, c5, c9]) ⟨rfl, hJ.pure 7 (by decide) (by decide)⟩
    · intro l a x hJ hsz hjn hdep hsame hval
      have c3 := (But.cell (j := 3) hJ.but hz lt1).trans hc3; have c4 := (But.cell (j := 4) hJ.but hz lt1).trans hc4; have c5 := (But.cell (j := 5) hJ.but hz lt1).trans hc5; have c9 := (But.cell (j := 9) hJ.but hz lt1).trans hc9
      have z108 : a.eval (.tmp 108) = .pointer (some ⟨w.heap.size, 3, none⟩) := hval 7 108 (hdep ⟨7, .data⟩ (by simp) rfl) rfl
      simp [Act.eval] at z108
      exact wp_val (.pointer (some ⟨w.heap.size, 4, none⟩)) x (by simp [execOp, z108, go_sem, c3, c4, c5, c9]) ⟨rfl, hJ.pure 8 (by decide) (by decide)⟩
    · intro l a x hJ hsz hjn hdep hsame hval
      have c3 := (But.cell (j := 3) hJ.but hz lt1).trans hc3; have c4 := (But.cell (j := 4) hJ.but hz lt1).trans hc4; have c5 := (But.cell (j := 5) hJ.but hz lt1).trans hc5; have c9 := (But.cell (j := 9) hJ.but hz lt1).trans hc9
      have z109 : a.eval (.tmp 109) = .pointer (some ⟨w.heap.size, 4, none⟩) := hval 8 109 (hdep ⟨8, .data⟩ (by simp) rfl) rfl
      simp [Act.eval] at z109
      exact wp_val (.int .i64 a0.fp) x (by simp [execOp, z109, go_sem, c3, c4, c5, c9]) ⟨rfl, hJ.pure 9 (by decide) (by decide)⟩
    · intro l a x hJ hsz hjn hdep hsame hval
      have c3 := (But.cell (j := 3) hJ.but hz lt1).trans hc3; have c4 := (But.cell (j := 4) hJ.but hz lt1).trans hc4; have c5 := (But.cell (j := 5) hJ.but hz lt1).trans hc5; have c9 := (But.cell (j := 9) hJ.but hz lt1).trans hc9
      have z5 : a.eval (.tmp 5) = .pointer (some ⟨w.heap.size, 0, none⟩) := hsame 5 (by decide)
      simp [Act.eval] at z5
      exact wp_val (.pointer (some ⟨w.heap.size, 9, none⟩)) x (by simp [execOp, z5, go_sem, c3, c4, c5, c9]) ⟨rfl, hJ.pure 10 (by decide) (by decide)⟩
    · intro l a x hJ hsz hjn hdep hsame hval
      have c3 := (But.cell (j := 3) hJ.but hz lt1).trans hc3; have c4 := (But.cell (j := 4) hJ.but hz lt1).trans hc4; have c5 := (But.cell (j := 5) hJ.but hz lt1).trans hc5; have c9 := (But.cell (j := 9) hJ.but hz lt1).trans hc9
      have z111 : a.eval (.tmp 111) = .pointer (some ⟨w.heap.size, 9, none⟩) := hval 10 111 (hdep ⟨10, .data⟩ (by simp) rfl) rfl
      simp [Act.eval] at z111
      exact wp_val (.bool a0.down) x (by simp [execOp, z111, go_sem, c3, c4, c5, c9]) ⟨rfl, hJ.pure 11 (by decide) (by decide)⟩
    · intro l a x hJ hsz hjn hdep hsame hval
      have c3 := (But.cell (j := 3) hJ.but hz lt1).trans hc3; have c4 := (But.cell (j := 4) hJ.but hz lt1).trans hc4; have c5 := (But.cell (j := 5) hJ.but hz lt1).trans hc5; have c9 := (But.cell (j := 9) hJ.but hz lt1).trans hc9
      have z101 : a.eval (.tmp 101) = .pointer (some ⟨S, 0, none⟩) := hval 0 101 (hdep ⟨0, .data⟩ (by simp) rfl) rfl
      have z104 : a.eval (.tmp 104) = .int .i64 a0.fh := hval 3 104 (hdep ⟨3, .data⟩ (by simp) rfl) rfl
      have z107 : a.eval (.tmp 107) = .int .i64 a0.th := hval 6 107 (hdep ⟨6, .data⟩ (by simp) rfl) rfl
      have z110 : a.eval (.tmp 110) = .int .i64 a0.fp := hval 9 110 (hdep ⟨9, .data⟩ (by simp) rfl) rfl
      have z112 : a.eval (.tmp 112) = .bool a0.down := hval 11 112 (hdep ⟨11, .data⟩ (by simp) rfl) rfl
      simp [Act.eval] at z101 z104 z107 z110 z112
      obtain ⟨X, Y, hp⟩ := hJ.at1 hjn
      exact wp_callF 13 _ _ rfl #[.pointer (some ⟨S, 0, none⟩), .int .i64 a0.fh, .int .i64 a0.th, .int .i64 a0.fp, .bool a0.down] (by simp [execOp, z101, z104, z107, z110, z112, go_sem]) ((PL.out _ _ hp.net).mono fun e y ⟨h1, h2, h3⟩ => ⟨_, h1, rfl, hJ.put1 (by rw [hsz]; decide) (by decide) (hp.left h2 h3)⟩)
    · intro l a x hJ hsz hjn hdep hsame hval
      have c3 := (But.cell (j := 3) hJ.but hz lt1).trans hc3; have c4 := (But.cell (j := 4) hJ.but hz lt1).trans hc4; have c5 := (But.cell (j := 5) hJ.but hz lt1).trans hc5; have c9 := (But.cell (j := 9) hJ.but hz lt1).trans hc9
      have z1 : a.eval (.tmp 1) = .pointer (some ⟨R, 0, none⟩) := hsame 1 (by decide)
      simp [Act.eval] at z1
      exact wp_val (.pointer (some ⟨R, 0, none⟩)) x (by simp [execOp, z1, go_sem, c3, c4, c5, c9]) ⟨rfl, hJ.pure 13 (by decide) (by decide)⟩
    · intro l a x hJ hsz hjn hdep hsame hval
      have c3 := (But.cell (j := 3) hJ.but hz lt1).trans hc3; have c4 := (But.cell (j := 4) hJ.but hz lt1).trans hc4; have c5 := (But.cell (j := 5) hJ.but hz lt1).trans hc5; have c9 := (But.cell (j := 9) hJ.but hz lt1).trans hc9
      have z5 : a.eval (.tmp 5) = .pointer (some ⟨w.heap.size, 0, none⟩) := hsame 5 (by decide)
      simp [Act.eval] at z5
      exact wp_val (.pointer (some ⟨w.heap.size, 3, none⟩)) x (by simp [execOp, z5, go_sem, c3, c4, c5, c9]) ⟨rfl, hJ.pure 14 (by decide) (by decide)⟩
    · intro l a x hJ hsz hjn hdep hsame hval
      have c3 := (But.cell (j := 3) hJ.but hz lt1).trans hc3; have c4 := (But.cell (j := 4) hJ.but hz lt1).trans hc4; have c5 := (But.cell (j := 5) hJ.but hz lt1).trans hc5; have c9 := (But.cell (j := 9) hJ.but hz lt1).trans hc9
      have z115 : a.eval (.tmp 115) = .pointer (some ⟨w.heap.size, 3, none⟩) := hval 14 115 (hdep ⟨14, .data⟩ (by simp) rfl) rfl
      simp [Act.eval] at z115
      exact wp_val (.pointer (some ⟨w.heap.size, 3, none⟩)) x (by simp [execOp, z115, go_sem, c3, c4, c5, c9]) ⟨rfl, hJ.pure 15 (by decide) (by decide)⟩
    · intro l a x hJ hsz hjn hdep hsame hval
      have c3 := (But.cell (j := 3) hJ.but hz lt1).trans hc3; have c4 := (But.cell (j := 4) hJ.but hz lt1).trans hc4; have c5 := (But.cell (j := 5) hJ.but hz lt1).trans hc5; have c9 := (But.cell (j := 9) hJ.but hz lt1).trans hc9
      have z116 : a.eval (.tmp 116) = .pointer (some ⟨w.heap.size, 3, none⟩) := hval 15 116 (hdep ⟨15, .data⟩ (by simp) rfl) rfl
      simp [Act.eval] at z116
      exact wp_val (.int .i64 a0.fh) x (by simp [execOp, z116, go_sem, c3, c4, c5, c9]) ⟨rfl, hJ.pure 16 (by decide) (by decide)⟩
    · intro l a x hJ hsz hjn hdep hsame hval
      have c3 := (But.cell (j := 3) hJ.but hz lt1).trans hc3; have c4 := (But.cell (j := 4) hJ.but hz lt1).trans hc4; have c5 := (But.cell (j := 5) hJ.but hz lt1).trans hc5; have c9 := (But.cell (j := 9) hJ.but hz lt1).trans hc9
      have z5 : a.eval (.tmp 5) = .pointer (some ⟨w.heap.size, 0, none⟩) := hsame 5 (by decide)
      simp [Act.eval] at z5
      exact wp_val (.pointer (some ⟨w.heap.size, 5, none⟩)) x (by simp [execOp, z5, go_sem, c3, c4, c5, c9]) ⟨rfl, hJ.pure 17 (by decide) (by decide)⟩
    · intro l a x hJ hsz hjn hdep hsame hval
      have c3 := (But.cell (j := 3) hJ.but hz lt1).trans hc3; have c4 := (But.cell (j := 4) hJ.but hz lt1).trans hc4; have c5 := (But.cell (j := 5) hJ.but hz lt1).trans hc5; have c9 := (But.cell (j := 9) hJ.but hz lt1).trans hc9
      have z118 : a.eval (.tmp 118) = .pointer (some ⟨w.heap.size, 5, none⟩) := hval 17 118 (hdep ⟨17, .data⟩ (by simp) rfl) rfl
      simp [Act.eval] at z118
      exact wp_val (.pointer (some ⟨w.heap.size, 5, none⟩)) x (by simp [execOp, z118, go_sem, c3, c4, c5, c9]) ⟨rfl, hJ.pure 18 (by decide) (by decide)⟩
    · intro l a x hJ hsz hjn hdep hsame hval
      have c3 := (But.cell (j := 3) hJ.but hz lt1).trans hc3; have c4 := (But.cell (j := 4) hJ.but hz lt1).trans hc4; have c5 := (But.cell (j := 5) hJ.but hz lt1).trans hc5; have c9 := (But.cell (j := 9) hJ.but hz lt1).trans hc9
      have z119 : a.eval (.tmp 119) = .pointer (some ⟨w.heap.size, 5, none⟩) := hval 18 119 (hdep ⟨18, .data⟩ (by simp) rfl) rfl
      simp [Act.eval] at z119
      exact wp_val (.int .i64 a0.th) x (by simp [execOp, z119, go_sem, c3, c4, c5, c9]) ⟨rfl, hJ.pure 19 (by decide) (by decide)⟩
    · intro l a x hJ hsz hjn hdep hsame hval
      have c3 := (But.cell (j := 3) hJ.but hz lt1).trans hc3; have c4 := (But.cell (j := 4) hJ.but hz lt1).trans hc4; have c5 := (But.cell (j := 5) hJ.but hz lt1).trans hc5; have c9 := (But.cell (j := 9) hJ.but hz lt1).trans hc9
      have z5 : a.eval (.tmp 5) = .pointer (some ⟨w.heap.size, 0, none⟩) := hsame 5 (by decide)
      simp [Act.eval] at z5
      exact wp_val (.pointer (some ⟨w.heap.size, 3, none⟩)) x (by simp [execOp, z5, go_sem, c3, c4, c5, c9]) ⟨rfl, hJ.pure 20 (by decide) (by decide)⟩
    · intro l a x hJ hsz hjn hdep hsame hval
      have c3 := (But.cell (j := 3) hJ.but hz lt1).trans hc3; have c4 := (But.cell (j := 4) hJ.but hz lt1).trans hc4; have c5 := (But.cell (j := 5) hJ.but hz lt1).trans hc5; have c9 := (But.cell (j := 9) hJ.but hz lt1).trans hc9
      have z121 : a.eval (.tmp 121) = .pointer (some ⟨w.heap.size, 3, none⟩) := hval 20 121 (hdep ⟨20, .data⟩ (by simp) rfl) rfl
      simp [Act.eval] at z121
      exact wp_val (.pointer (some ⟨w.heap.size, 4, none⟩)) x (by simp [execOp, z121, go_sem, c3, c4, c5, c9]) ⟨rfl, hJ.pure 21 (by decide) (by decide)⟩
    · intro l a x hJ hsz hjn hdep hsame hval
      have c3 := (But.cell (j := 3) hJ.but hz lt1).trans hc3; have c4 := (But.cell (j := 4) hJ.but hz lt1).trans hc4; have c5 := (But.cell (j := 5) hJ.but hz lt1).trans hc5; have c9 := (But.cell (j := 9) hJ.but hz lt1).trans hc9
      have z122 : a.eval (.tmp 122) = .pointer (some ⟨w.heap.size, 4, none⟩) := hval 21 122 (hdep ⟨21, .data⟩ (by simp) rfl) rfl
      simp [Act.eval] at z122
      exact wp_val (.int .i64 a0.fp) x (by simp [execOp, z122, go_sem, c3, c4, c5, c9]) ⟨rfl, hJ.pure 22 (by decide) (by decide)⟩
    · intro l a x hJ hsz hjn hdep hsame hval
      have c3 := (But.cell (j := 3) hJ.but hz lt1).trans hc3; have c4 := (But.cell (j := 4) hJ.but hz lt1).trans hc4; have c5 := (But.cell (j := 5) hJ.but hz lt1).trans hc5; have c9 := (But.cell (j := 9) hJ.but hz lt1).trans hc9
      have z5 : a.eval (.tmp 5) = .pointer (some ⟨w.heap.size, 0, none⟩) := hsame 5 (by decide)
      simp [Act.eval] at z5
      exact wp_val (.pointer (some ⟨w.heap.size, 9, none⟩)) x (by simp [execOp, z5, go_sem, c3, c4, c5, c9]) ⟨rfl, hJ.pure 23 (by decide) (by decide)⟩
    · intro l a x hJ hsz hjn hdep hsame hval
      have c3 := (But.cell (j := 3) hJ.but hz lt1).trans hc3; have c4 := (But.cell (j := 4) hJ.but hz lt1).trans hc4; have c5 := (But.cell (j := 5) hJ.but hz lt1).trans hc5; have c9 := (But.cell (j := 9) hJ.but hz lt1).trans hc9
      have z124 : a.eval (.tmp 124) = .pointer (some ⟨w.heap.size, 9, none⟩) := hval 23 124 (hdep ⟨23, .data⟩ (by simp) rfl) rfl
      simp [Act.eval] at z124
      exact wp_val (.bool a0.down) x (by simp [execOp, z124, go_sem, c3, c4, c5, c9]) ⟨rfl, hJ.pure 24 (by decide) (by decide)⟩
    · intro l a x hJ hsz hjn hdep hsame hval
      have c3 := (But.cell (j := 3) hJ.but hz lt1).trans hc3; have c4 := (But.cell (j := 4) hJ.but hz lt1).trans hc4; have c5 := (But.cell (j := 5) hJ.but hz lt1).trans hc5; have c9 := (But.cell (j := 9) hJ.but hz lt1).trans hc9
      have z114 : a.eval (.tmp 114) = .pointer (some ⟨R, 0, none⟩) := hval 13 114 (hdep ⟨13, .data⟩ (by simp) rfl) rfl
      have z117 : a.eval (.tmp 117) = .int .i64 a0.fh := hval 16 117 (hdep ⟨16, .data⟩ (by simp) rfl) rfl
      have z120 : a.eval (.tmp 120) = .int .i64 a0.th := hval 19 120 (hdep ⟨19, .data⟩ (by simp) rfl) rfl
      have z123 : a.eval (.tmp 123) = .int .i64 a0.fp := hval 22 123 (hdep ⟨22, .data⟩ (by simp) rfl) rfl
      have z125 : a.eval (.tmp 125) = .bool a0.down := hval 24 125 (hdep ⟨24, .data⟩ (by simp) rfl) rfl
      simp [Act.eval] at z114 z117 z120 z123 z125
      obtain ⟨X, Y, hp⟩ := hJ.at2 hjn
      exact wp_callF 32 _ _ rfl #[.pointer (some ⟨R, 0, none⟩), .int .i64 a0.fh, .int .i64 a0.th, .int .i64 a0.fp, .bool a0.down] (by simp [execOp, z114, z117, z120, z123, z125, go_sem]) ((PR.out _ _ hp.ref).mono fun e y ⟨h1, h2, h3⟩ => ⟨_, h1, rfl, hJ.put2 (by rw [hsz]; decide) (by decide) (hp.right (h2.mono more_self) h3)⟩)
    · intro l a x hJ hsz hjn hdep hsame hval
      have c3 := (But.cell (j := 3) hJ.but hz lt1).trans hc3; have c4 := (But.cell (j := 4) hJ.but hz lt1).trans hc4; have c5 := (But.cell (j := 5) hJ.but hz lt1).trans hc5; have c9 := (But.cell (j := 9) hJ.but hz lt1).trans hc9
      have z113 : a.eval (.tmp 113) = .int .i64 r := hval 12 113 (hdep ⟨12, .data⟩ (by simp) rfl) rfl
      have z126 : a.eval (.tmp 126) = .int .i64 r := hval 25 126 (hdep ⟨25, .data⟩ (by simp) rfl) rfl
      simp [Act.eval] at z113 z126
      exact wp_val (.bool true) x (by simp [execOp, z113, z126, go_sem, c3, c4, c5, c9]) ⟨rfl, hJ.pure 26 (by decide) (by decide)⟩
    · intro l a x hJ hsz hjn hdep hsame hval
      have c3 := (But.cell (j := 3) hJ.but hz lt1).trans hc3; have c4 := (But.cell (j := 4) hJ.but hz lt1).trans hc4; have c5 := (But.cell (j := 5) hJ.but hz lt1).trans hc5; have c9 := (But.cell (j := 9) hJ.but hz lt1).trans hc9
      have z127 : a.eval (.tmp 127) = .bool true := hval 26 127 (hdep ⟨26, .data⟩ (by simp) rfl) rfl
      simp [Act.eval] at z127
      exact wp_val (.bool true) x (by simp [execOp, z127, go_sem, c3, c4, c5, c9]) ⟨rfl, hJ.pure 27 (by decide) (by decide)⟩
  intro x hJ
  obtain ⟨h2, hb⟩ := JT.fin hJ (by decide) (by decide)
  simp [Act.put]
  go_wp2_with fail
  go_ret
  exact ⟨rfl, h2.less (fun k hk => .inl hk), ((ButX.ofBelow HT.out.2).mono (fun k hk => hk)).trans ((But.less hb (fun k hk => .inl hk)).mono more_self)⟩
end Go.Proofs.Ytmdhpjbahenbhaa.Net
