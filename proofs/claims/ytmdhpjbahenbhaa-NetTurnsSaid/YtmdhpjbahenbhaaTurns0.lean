/-
  Contracts: a call of both nets (act), of kinds 3, 4, 5, where the nets hold different lists.
-/
import Derived.Test.YtmdhpjbahenbhaaActs1
namespace Go.Proofs.Ytmdhpjbahenbhaa.Net
open Go.RowKit Mem Cells Ops Go.Maps
set_option linter.unusedVariables false
set_option linter.unusedSimpArgs false

/-- c1, c2: the calls of the net and of the reference's; fs, gs: ahead of them; fs', gs': behind. -/
structure JV (Z : Nat → Prop) (w0 : World) (S R : Nat) (hosts : Int) (fs fs' gs gs' : List F) (cut cut' : Int → Int → Int → Bool) (n : Nat) (c1 c2 : Nat) (l : Array Bool) (x : World) : Prop where
  two : Two Z x S R hosts (if l.getD c1 false = true then fs' else fs) (if l.getD c2 false = true then gs' else gs) cut cut' n
  but : ButX (fun k => ¬ Z k) w0 x
section
variable {Z : Nat → Prop} {w0 : World} {S R : Nat} {hosts : Int} {fs fs' gs gs' : List F} {cut cut' : Int → Int → Int → Bool} {n : Nat} {c1 c2 : Nat} {l : Array Bool} {x y : World}
theorem JV.pure (h : JV Z w0 S R hosts fs fs' gs gs' cut cut' n c1 c2 l x) (j : Nat) (h1 : j ≠ c1) (h2 : j ≠ c2) : JV Z w0 S R hosts fs fs' gs gs' cut cut' n c1 c2 (l.setIfInBounds j true) x := by
  obtain ⟨a, b⟩ := h
  constructor
  · rw [MonoJ.getD_set_ne h1, MonoJ.getD_set_ne h2]; exact a
  · exact b
theorem JV.at1 (h : JV Z w0 S R hosts fs fs' gs gs' cut cut' n c1 c2 l x) (hl : l.getD c1 true = false) : ∃ X Y, Pair Z x S R hosts fs (if l.getD c2 false = true then gs' else gs) cut cut' n X Y := by
  obtain ⟨X, Y, h⟩ := h.two
  rw [MonoJ.getD_false hl] at h
  exact ⟨X, Y, h⟩
theorem JV.at2 (h : JV Z w0 S R hosts fs fs' gs gs' cut cut' n c1 c2 l x) (hl : l.getD c2 true = false) : ∃ X Y, Pair Z x S R hosts (if l.getD c1 false = true then fs' else fs) gs cut cut' n X Y := by
  obtain ⟨X, Y, h⟩ := h.two
  rw [MonoJ.getD_false hl] at h
  exact ⟨X, Y, h⟩
theorem JV.put1 (h : JV Z w0 S R hosts fs fs' gs gs' cut cut' n c1 c2 l x) (hz : c1 < l.size) (hne : c1 ≠ c2) (hs : Two Z y S R hosts fs' (if l.getD c2 false = true then gs' else gs) cut cut' n ∧ ButX (fun k => ¬ Z k) x y) : JV Z w0 S R hosts fs fs' gs gs' cut cut' n c1 c2 (l.setIfInBounds c1 true) y := by
  constructor
  · rw [MonoJ.getD_set_same hz, MonoJ.getD_set_ne hne, if_pos rfl]; exact hs.1
  · exact But.trans h.but hs.2
theorem JV.put2 (h : JV Z w0 S R hosts fs fs' gs gs' cut cut' n c1 c2 l x) (hz : c2 < l.size) (hne : c1 ≠ c2) (hs : Two Z y S R hosts (if l.getD c1 false = true then fs' else fs) gs' cut cut' n ∧ ButX (fun k => ¬ Z k) x y) : JV Z w0 S R hosts fs fs' gs gs' cut cut' n c1 c2 (l.setIfInBounds c2 true) y := by
  constructor
  · rw [MonoJ.getD_set_same hz, MonoJ.getD_set_ne (Ne.symm hne), if_pos rfl]; exact hs.1
  · exact But.trans h.but hs.2
theorem JV.start (h : Two Z w0 S R hosts fs gs cut cut' n) (m : Nat) : JV Z w0 S R hosts fs fs' gs gs' cut cut' n c1 c2 (Array.replicate m false) w0.drew := by
  have e : ∀ i, (Array.replicate m false).getD i false = false := fun i => by simp only [Array.getD_eq_getD_getElem?, Array.getElem?_replicate]; split <;> rfl
  constructor
  · rw [e, e]
    exact h.below ((Below.refl _ _).drew)
  · exact ButX.ofBelow ((Below.refl _ _).drew)
theorem JV.fin {m : Nat} (h : JV Z w0 S R hosts fs fs' gs gs' cut cut' n c1 c2 (Array.replicate m true) x) (h1 : c1 < m) (h2 : c2 < m) : Two Z x S R hosts fs' gs' cut cut' n ∧ ButX (fun k => ¬ Z k) w0 x := by
  have e : ∀ i, i < m → (Array.replicate m true).getD i false = true := fun i hi => by simp [Array.getD_eq_getD_getElem?, Array.getElem?_replicate, hi]
  obtain ⟨a, b⟩ := h
  rw [e c1 h1, e c2 h2] at a
  exact ⟨a, b⟩
end
/-- What act leaves. -/
def ActPost2 (Z : Nat → Prop) (S R : Nat) (hosts : Int) (fs gs : List F) (cut cut' : Int → Int → Int → Bool) (n : Nat) (w : World) (e : Ending) (w' : World) : Prop := (∃ b, e = .returned (.bool b)) ∧ Two Z w' S R hosts fs gs cut cut' n ∧ ButX (fun k => ¬ Z k) w w'
set_option maxRecDepth 100000 in
set_option maxHeartbeats 1600000 in
theorem act3u {Z : Nat → Prop} {w : World} {S R : Nat} {hosts : Int} {fs gs : List F} {cut cut' : Int → Int → Int → Bool} {n : Nat} (h : Two Z w S R hosts fs gs cut cut' n) (a0 : A) (d : Value) (hk : a0.kind = 3) (hd : d.oneCell' = true) :
    Calls Try.prog 16 #[.pointer (some ⟨S, 0, none⟩), .pointer (some ⟨R, 0, none⟩), .agg (rowA a0 d)] w (ActPost2 Z S R hosts (twinL fs a0.k) (twinL gs a0.k) cut cut' n w) := by
  have H := Lib.hid h
  have HK := Lib.hid hk
  obtain ⟨r1, hr1⟩ : ∃ r1, twinE fs a0.k = r1 := ⟨_, rfl⟩
  obtain ⟨r2, hr2⟩ : ∃ r2, twinE gs a0.k = r2 := ⟨_, rfl⟩
  have HE := Lib.hid (And.intro hr1 hr2)
  clear h hk hr1 hr2
  go_enter Try.func16, Try.ntmps16
  go_upto_region 9 with (first
    | ((with_reducible refine wpl_boxAt rfl 52 (.tmp 2) rfl (rowA a0 d) ?_ ?_); rfl; go_must (intro w1 hat1 hb1 hs1; have HT := Lib.hid (And.intro (H.out.new hb1) hb1); have hc0 := hat1.cell 0; have hc1 := hat1.cell 1; simp [rowA] at hc0 hc1; rw [HK.out] at hc0; have lt1 := hat1.lt; clear hs1 hb1)))
  have hz : more Z w w1 w.heap.size := .inr ⟨Nat.le_refl _, lt1⟩
  refine MonoJ.wp_region_J [some 60, some 61, some 62, some 63, some 64, some 65, some 66, some 67, some 68, some 6] [.pointer (some ⟨S, 0, none⟩), .pointer (some ⟨w.heap.size, 1, none⟩), .int .i64 a0.k, .int .i64 r1, .pointer (some ⟨R, 0, none⟩), .pointer (some ⟨w.heap.size, 1, none⟩), .int .i64 a0.k, .int .i64 r2, .bool (r1 == r2), .bool (r1 == r2)] (JV (more Z w w1) w1 S R hosts fs (twinL fs a0.k) gs (twinL gs a0.k) cut cut' n 3 7) (by kernel_rfl) (by kernel_rfl) (by kernel_rfl) ?_ ?_ ?_
  · exact JV.start HT.out.1 _
  · simp only [MonoJ.OpGoals, and_true]
    refine ⟨?_, ?_, ?_, ?_, ?_, ?_, ?_, ?_, ?_, ?_⟩
    · intro l a x hJ hsz hjn hdep hsame hval
      have c1 := (But.cell (j := 1) hJ.but hz lt1).trans hc1
      have z0 : a.eval (.tmp 0) = .pointer (some ⟨S, 0, none⟩) := hsame 0 (by decide)
      simp [Act.eval] at z0
      exact wp_val (.pointer (some ⟨S, 0, none⟩)) x (by simp [execOp, z0, go_sem, c1]) ⟨rfl, hJ.pure 0 (by decide) (by decide)⟩
    · intro l a x hJ hsz hjn hdep hsame hval
      have c1 := (But.cell (j := 1) hJ.but hz lt1).trans hc1
      have z5 : a.eval (.tmp 5) = .pointer (some ⟨w.heap.size, 0, none⟩) := hsame 5 (by decide)
      simp [Act.eval] at z5
      exact wp_val (.pointer (some ⟨w.heap.size, 1, none⟩)) x (by simp [execOp, z5, go_sem, c1]) ⟨rfl, hJ.pure 1 (by decide) (by decide)⟩
    · intro l a x hJ hsz hjn hdep hsame hval
      have c1 := (But.cell (j := 1) hJ.but hz lt1).trans hc1
      have z61 : a.eval (.tmp 61) = .pointer (some ⟨w.heap.size, 1, none⟩) := hval 1 61 (hdep ⟨1, .data⟩ (by simp) rfl) rfl
      simp [Act.eval] at z61
      exact wp_val (.int .i64 a0.k) x (by simp [execOp, z61, go_sem, c1]) ⟨rfl, hJ.pure 2 (by decide) (by decide)⟩
    · intro l a x hJ hsz hjn hdep hsame hval
      have c1 := (But.cell (j := 1) hJ.but hz lt1).trans hc1
      have z60 : a.eval (.tmp 60) = .pointer (some ⟨S, 0, none⟩) := hval 0 60 (hdep ⟨0, .data⟩ (by simp) rfl) rfl
      have z62 : a.eval (.tmp 62) = .int .i64 a0.k := hval 2 62 (hdep ⟨2, .data⟩ (by simp) rfl) rfl
      simp [Act.eval] at z60 z62
      obtain ⟨X, Y, hp⟩ := hJ.at1 hjn
      exact wp_callF 15 _ _ rfl #[.pointer (some ⟨S, 0, none⟩), .int .i64 a0.k] (by simp [execOp, z60, z62, go_sem]) ((twinX hp.net a0.k).mono fun e y ⟨h1, h2, h3⟩ => ⟨_, h1, congrArg (fun v => Act.put a _ v) (congrArg (Value.int .i64) HE.out.1) , hJ.put1 (by rw [hsz]; decide) (by decide) (hp.left h2 h3)⟩)
    · intro l a x hJ hsz hjn hdep hsame hval
      have c1 := (But.cell (j := 1) hJ.but hz lt1).trans hc1
      have z1 : a.eval (.tmp 1) = .pointer (some ⟨R, 0, none⟩) := hsame 1 (by decide)
      simp [Act.eval] at z1
      exact wp_val (.pointer (some ⟨R, 0, none⟩)) x (by simp [execOp, z1, go_sem, c1]) ⟨rfl, hJ.pure 4 (by decide) (by decide)⟩
    · intro l a x hJ hsz hjn hdep hsame hval
      have c1 := (But.cell (j := 1) hJ.but hz lt1).trans hc1
      have z5 : a.eval (.tmp 5) = .pointer (some ⟨w.heap.size, 0, none⟩) := hsame 5 (by decide)
      simp [Act.eval] at z5
      exact wp_val (.pointer (some ⟨w.heap.size, 1, none⟩)) x (by simp [execOp, z5, go_sem, c1]) ⟨rfl, hJ.pure 5 (by decide) (by decide)⟩
    · intro l a x hJ hsz hjn hdep hsame hval
      have c1 := (But.cell (j := 1) hJ.but hz lt1).trans hc1
      have z65 : a.eval (.tmp 65) = .pointer (some ⟨w.heap.size, 1, none⟩) := hval 5 65 (hdep ⟨5, .data⟩ (by simp) rfl) rfl
      simp [Act.eval] at z65
      exact wp_val (.int .i64 a0.k) x (by simp [execOp, z65, go_sem, c1]) ⟨rfl, hJ.pure 6 (by decide) (by decide)⟩
    · intro l a x hJ hsz hjn hdep hsame hval
      have c1 := (But.cell (j := 1) hJ.but hz lt1).trans hc1
      have z64 : a.eval (.tmp 64) = .pointer (some ⟨R, 0, none⟩) := hval 4 64 (hdep ⟨4, .data⟩ (by simp) rfl) rfl
      have z66 : a.eval (.tmp 66) = .int .i64 a0.k := hval 6 66 (hdep ⟨6, .data⟩ (by simp) rfl) rfl
      simp [Act.eval] at z64 z66
      obtain ⟨X, Y, hp⟩ := hJ.at2 hjn
      exact wp_callF 29 _ _ rfl #[.pointer (some ⟨R, 0, none⟩), .int .i64 a0.k] (by simp [execOp, z64, z66, go_sem]) ((rTwinX hp.ref a0.k).mono fun e y ⟨h1, h2, h3⟩ => ⟨_, h1, congrArg (fun v => Act.put a _ v) (congrArg (Value.int .i64) HE.out.2), hJ.put2 (by rw [hsz]; decide) (by decide) (hp.right h2 h3)⟩)
    · intro l a x hJ hsz hjn hdep hsame hval
      have c1 := (But.cell (j := 1) hJ.but hz lt1).trans hc1
      have z63 : a.eval (.tmp 63) = .int .i64 r1 := hval 3 63 (hdep ⟨3, .data⟩ (by simp) rfl) rfl
      have z67 : a.eval (.tmp 67) = .int .i64 r2 := hval 7 67 (hdep ⟨7, .data⟩ (by simp) rfl) rfl
      simp [Act.eval] at z63 z67
      exact wp_val (.bool (r1 == r2)) x (by simp [execOp, z63, z67, go_sem, c1]) ⟨rfl, hJ.pure 8 (by decide) (by decide)⟩
    · intro l a x hJ hsz hjn hdep hsame hval
      have c1 := (But.cell (j := 1) hJ.but hz lt1).trans hc1
      have z68 : a.eval (.tmp 68) = .bool (r1 == r2) := hval 8 68 (hdep ⟨8, .data⟩ (by simp) rfl) rfl
      simp [Act.eval] at z68
      exact wp_val (.bool (r1 == r2)) x (by simp [execOp, z68, go_sem, c1]) ⟨rfl, hJ.pure 9 (by decide) (by decide)⟩
  intro x hJ
  obtain ⟨h2, hb⟩ := JV.fin hJ (by decide) (by decide)
  have HR := Lib.hid (And.intro h2 hb)
  clear h2 hb hJ
  simp [Act.put]
  go_wp2_with fail
  go_ret
  exact ⟨⟨_, rfl⟩, HR.out.1.less (fun k hk => .inl hk), ((ButX.ofBelow HT.out.2).mono (fun k hk => hk)).trans ((But.less HR.out.2 (fun k hk => .inl hk)).mono more_self)⟩
set_option maxRecDepth 100000 in
set_option maxHeartbeats 1600000 in
theorem act4u {Z : Nat → Prop} {w : World} {S R : Nat} {hosts : Int} {fs gs : List F} {cut cut' : Int → Int → Int → Bool} {n : Nat} (h : Two Z w S R hosts fs gs cut cut' n) (a0 : A) (d : Value) (hk : a0.kind = 4) (hd : d.oneCell' = true) :
    Calls Try.prog 16 #[.pointer (some ⟨S, 0, none⟩), .pointer (some ⟨R, 0, none⟩), .agg (rowA a0 d)] w (ActPost2 Z S R hosts (lastL fs a0.k) (lastL gs a0.k) cut cut' n w) := by
  have H := Lib.hid h
  have HK := Lib.hid hk
  obtain ⟨r1, hr1⟩ : ∃ r1, takeE fs a0.k = r1 := ⟨_, rfl⟩
  obtain ⟨r2, hr2⟩ : ∃ r2, takeE gs a0.k = r2 := ⟨_, rfl⟩
  have HE := Lib.hid (And.intro hr1 hr2)
  clear h hk hr1 hr2
  go_enter Try.func16, Try.ntmps16
  go_upto_region 11 with (first
    | ((with_reducible refine wpl_boxAt rfl 52 (.tmp 2) rfl (rowA a0 d) ?_ ?_); rfl; go_must (intro w1 hat1 hb1 hs1; have HT := Lib.hid (And.intro (H.out.new hb1) hb1); have hc0 := hat1.cell 0; have hc1 := hat1.cell 1; simp [rowA] at hc0 hc1; rw [HK.out] at hc0; have lt1 := hat1.lt; clear hs1 hb1)))
  have hz : more Z w w1 w.heap.size := .inr ⟨Nat.le_refl _, lt1⟩
  refine MonoJ.wp_region_J [some 71, some 72, some 73, some 74, some 75, some 76, some 77, some 78, some 79, some 6] [.pointer (some ⟨S, 0, none⟩), .pointer (some ⟨w.heap.size, 1, none⟩), .int .i64 a0.k, .int .i64 r1, .pointer (some ⟨R, 0, none⟩), .pointer (some ⟨w.heap.size, 1, none⟩), .int .i64 a0.k, .int .i64 r2, .bool (r1 == r2), .bool (r1 == r2)] (JV (more Z w w1) w1 S R hosts fs (lastL fs a0.k) gs (lastL gs a0.k) cut cut' n 3 7) (by kernel_rfl) (by kernel_rfl) (by kernel_rfl) ?_ ?_ ?_
  · exact JV.start HT.out.1 _
  · simp only [MonoJ.OpGoals, and_true]
    refine ⟨?_, ?_, ?_, ?_, ?_, ?_, ?_, ?_, ?_, ?_⟩
    · intro l a x hJ hsz hjn hdep hsame hval
      have c1 := (But.cell (j := 1) hJ.but hz lt1).trans hc1
      have z0 : a.eval (.tmp 0) = .pointer (some ⟨S, 0, none⟩) := hsame 0 (by decide)
      simp [Act.eval] at z0
      exact wp_val (.pointer (some ⟨S, 0, none⟩)) x (by simp [execOp, z0, go_sem, c1]) ⟨rfl, hJ.pure 0 (by decide) (by decide)⟩
    · intro l a x hJ hsz hjn hdep hsame hval
      have c1 := (But.cell (j := 1) hJ.but hz lt1).trans hc1
      have z5 : a.eval (.tmp 5) = .pointer (some ⟨w.heap.size, 0, none⟩) := hsame 5 (by decide)
      simp [Act.eval] at z5
      exact wp_val (.pointer (some ⟨w.heap.size, 1, none⟩)) x (by simp [execOp, z5, go_sem, c1]) ⟨rfl, hJ.pure 1 (by decide) (by decide)⟩
    · intro l a x hJ hsz hjn hdep hsame hval
      have c1 := (But.cell (j := 1) hJ.but hz lt1).trans hc1
      have z72 : a.eval (.tmp 72) = .pointer (some ⟨w.heap.size, 1, none⟩) := hval 1 72 (hdep ⟨1, .data⟩ (by simp) rfl) rfl
      simp [Act.eval] at z72
      exact wp_val (.int .i64 a0.k) x (by simp [execOp, z72, go_sem, c1]) ⟨rfl, hJ.pure 2 (by decide) (by decide)⟩
    · intro l a x hJ hsz hjn hdep hsame hval
      have c1 := (But.cell (j := 1) hJ.but hz lt1).trans hc1
      have z71 : a.eval (.tmp 71) = .pointer (some ⟨S, 0, none⟩) := hval 0 71 (hdep ⟨0, .data⟩ (by simp) rfl) rfl
      have z73 : a.eval (.tmp 73) = .int .i64 a0.k := hval 2 73 (hdep ⟨2, .data⟩ (by simp) rfl) rfl
      simp [Act.eval] at z71 z73
      obtain ⟨X, Y, hp⟩ := hJ.at1 hjn
      exact wp_callF 20 _ _ rfl #[.pointer (some ⟨S, 0, none⟩), .int .i64 a0.k] (by simp [execOp, z71, z73, go_sem]) ((lastE hp.net a0.k).mono fun e y ⟨h1, h2, h3⟩ => ⟨_, h1, congrArg (fun v => Act.put a _ v) (congrArg (Value.int .i64) HE.out.1) , hJ.put1 (by rw [hsz]; decide) (by decide) (hp.left h2 h3)⟩)
    · intro l a x hJ hsz hjn hdep hsame hval
      have c1 := (But.cell (j := 1) hJ.but hz lt1).trans hc1
      have z1 : a.eval (.tmp 1) = .pointer (some ⟨R, 0, none⟩) := hsame 1 (by decide)
      simp [Act.eval] at z1
      exact wp_val (.pointer (some ⟨R, 0, none⟩)) x (by simp [execOp, z1, go_sem, c1]) ⟨rfl, hJ.pure 4 (by decide) (by decide)⟩
    · intro l a x hJ hsz hjn hdep hsame hval
      have c1 := (But.cell (j := 1) hJ.but hz lt1).trans hc1
      have z5 : a.eval (.tmp 5) = .pointer (some ⟨w.heap.size, 0, none⟩) := hsame 5 (by decide)
      simp [Act.eval] at z5
      exact wp_val (.pointer (some ⟨w.heap.size, 1, none⟩)) x (by simp [execOp, z5, go_sem, c1]) ⟨rfl, hJ.pure 5 (by decide) (by decide)⟩
    · intro l a x hJ hsz hjn hdep hsame hval
      have c1 := (But.cell (j := 1) hJ.but hz lt1).trans hc1
      have z76 : a.eval (.tmp 76) = .pointer (some ⟨w.heap.size, 1, none⟩) := hval 5 76 (hdep ⟨5, .data⟩ (by simp) rfl) rfl
      simp [Act.eval] at z76
      exact wp_val (.int .i64 a0.k) x (by simp [execOp, z76, go_sem, c1]) ⟨rfl, hJ.pure 6 (by decide) (by decide)⟩
    · intro l a x hJ hsz hjn hdep hsame hval
      have c1 := (But.cell (j := 1) hJ.but hz lt1).trans hc1
      have z75 : a.eval (.tmp 75) = .pointer (some ⟨R, 0, none⟩) := hval 4 75 (hdep ⟨4, .data⟩ (by simp) rfl) rfl
      have z77 : a.eval (.tmp 77) = .int .i64 a0.k := hval 6 77 (hdep ⟨6, .data⟩ (by simp) rfl) rfl
      simp [Act.eval] at z75 z77
      obtain ⟨X, Y, hp⟩ := hJ.at2 hjn
      exact wp_callF 30 _ _ rfl #[.pointer (some ⟨R, 0, none⟩), .int .i64 a0.k] (by simp [execOp, z75, z77, go_sem]) ((rLastX hp.ref a0.k).mono fun e y ⟨h1, h2, h3⟩ => ⟨_, h1, congrArg (fun v => Act.put a _ v) (congrArg (Value.int .i64) HE.out.2), hJ.put2 (by rw [hsz]; decide) (by decide) (hp.right h2 h3)⟩)
    · intro l a x hJ hsz hjn hdep hsame hval
      have c1 := (But.cell (j := 1) hJ.but hz lt1).trans hc1
      have z74 : a.eval (.tmp 74) = .int .i64 r1 := hval 3 74 (hdep ⟨3, .data⟩ (by simp) rfl) rfl
      have z78 : a.eval (.tmp 78) = .int .i64 r2 := hval 7 78 (hdep ⟨7, .data⟩ (by simp) rfl) rfl
      simp [Act.eval] at z74 z78
      exact wp_val (.bool (r1 == r2)) x (by simp [execOp, z74, z78, go_sem, c1]) ⟨rfl, hJ.pure 8 (by decide) (by decide)⟩
    · intro l a x hJ hsz hjn hdep hsame hval
      have c1 := (But.cell (j := 1) hJ.but hz lt1).trans hc1
      have z79 : a.eval (.tmp 79) = .bool (r1 == r2) := hval 8 79 (hdep ⟨8, .data⟩ (by simp) rfl) rfl
      simp [Act.eval] at z79
      exact wp_val (.bool (r1 == r2)) x (by simp [execOp, z79, go_sem, c1]) ⟨rfl, hJ.pure 9 (by decide) (by decide)⟩
  intro x hJ
  obtain ⟨h2, hb⟩ := JV.fin hJ (by decide) (by decide)
  have HR := Lib.hid (And.intro h2 hb)
  clear h2 hb hJ
  simp [Act.put]
  go_wp2_with fail
  go_ret
  exact ⟨⟨_, rfl⟩, HR.out.1.less (fun k hk => .inl hk), ((ButX.ofBelow HT.out.2).mono (fun k hk => hk)).trans ((But.less HR.out.2 (fun k hk => .inl hk)).mono more_self)⟩
set_option maxRecDepth 100000 in
set_option maxHeartbeats 1600000 in
theorem act5u {Z : Nat → Prop} {w : World} {S R : Nat} {hosts : Int} {fs gs : List F} {cut cut' : Int → Int → Int → Bool} {n : Nat} (h : Two Z w S R hosts fs gs cut cut' n) (a0 : A) (d : Value) (hk : a0.kind = 5) (hd : d.oneCell' = true) (hb : 0 ≤ a0.bits ∧ a0.bits ≤ 255) (ha : i64 a0.at_) :
    Calls Try.prog 16 #[.pointer (some ⟨S, 0, none⟩), .pointer (some ⟨R, 0, none⟩), .agg (rowA a0 d)] w (ActPost2 Z S R hosts (turnL fs a0.k a0.at_ a0.bits) (turnL gs a0.k a0.at_ a0.bits) cut cut' n w) := by
  have H := Lib.hid h
  have HK := Lib.hid hk
  obtain ⟨r1, hr1⟩ : ∃ r1, turnE fs a0.k a0.at_ a0.bits = r1 := ⟨_, rfl⟩
  obtain ⟨r2, hr2⟩ : ∃ r2, turnE gs a0.k a0.at_ a0.bits = r2 := ⟨_, rfl⟩
  have HE := Lib.hid (And.intro hr1 hr2)
  have HA := Lib.hid (And.intro hb (show -9223372036854775808 ≤ a0.at_ ∧ a0.at_ ≤ 9223372036854775807 from ha))
  clear hb ha
  clear h hk hr1 hr2
  go_enter Try.func16, Try.ntmps16
  go_upto_region 13 with (first
    | ((with_reducible refine wpl_boxAt rfl 52 (.tmp 2) rfl (rowA a0 d) ?_ ?_); rfl; go_must (intro w1 hat1 hb1 hs1; have HT := Lib.hid (And.intro (H.out.new hb1) hb1); have hc0 := hat1.cell 0; have hc1 := hat1.cell 1; have hc2 := hat1.cell 2; have hc8 := hat1.cell 8; simp [rowA] at hc0 hc1 hc2 hc8; rw [HK.out] at hc0; have lt1 := hat1.lt; clear hs1 hb1)))
  have hz : more Z w w1 w.heap.size := .inr ⟨Nat.le_refl _, lt1⟩
  refine MonoJ.wp_region_J [some 82, some 83, some 84, some 85, some 86, some 87, some 88, some 89, some 90, some 91, some 92, some 93, some 94, some 95, some 96, some 97, some 98, some 6] [.pointer (some ⟨S, 0, none⟩), .pointer (some ⟨w.heap.size, 1, none⟩), .int .i64 a0.k, .pointer (some ⟨w.heap.size, 2, none⟩), .int .i64 a0.at_, .pointer (some ⟨w.heap.size, 8, none⟩), .int .u8 a0.bits, .int .i64 r1, .pointer (some ⟨R, 0, none⟩), .pointer (some ⟨w.heap.size, 1, none⟩), .int .i64 a0.k, .pointer (some ⟨w.heap.size, 2, none⟩), .int .i64 a0.at_, .pointer (some ⟨w.heap.size, 8, none⟩), .int .u8 a0.bits, .int .i64 r2, .bool (r1 == r2), .bool (r1 == r2)] (JV (more Z w w1) w1 S R hosts fs (turnL fs a0.k a0.at_ a0.bits) gs (turnL gs a0.k a0.at_ a0.bits) cut cut' n 7 15) (by kernel_rfl) (by kernel_rfl) (by kernel_rfl) ?_ ?_ ?_
  · exact JV.start HT.out.1 _
  · simp only [MonoJ.OpGoals, and_true]
    refine ⟨?_, ?_, ?_, ?_, ?_, ?_, ?_, ?_, ?_, ?_, ?_, ?_, ?_, ?_, ?_, ?_, ?_, ?_⟩
    · intro l a x hJ hsz hjn hdep hsame hval
      have c1 := (But.cell (j := 1) hJ.but hz lt1).trans hc1; have c2 := (But.cell (j := 2) hJ.but hz lt1).trans hc2; have c8 := (But.cell (j := 8) hJ.but hz lt1).trans hc8
      have z0 : a.eval (.tmp 0) = .pointer (some ⟨S, 0, none⟩) := hsame 0 (by decide)
      simp [Act.eval] at z0
      exact wp_val (.pointer (some ⟨S, 0, none⟩)) x (by simp [execOp, z0, go_sem, c1, c2, c8]) ⟨rfl, hJ.pure 0 (by decide) (by decide)⟩
    · intro l a x hJ hsz hjn hdep hsame hval
      have c1 := (But.cell (j := 1) hJ.but hz lt1).trans hc1; have c2 := (But.cell (j := 2) hJ.but hz lt1).trans hc2; have c8 := (But.cell (j := 8) hJ.but hz lt1).trans hc8
      have z5 : a.eval (.tmp 5) = .pointer (some ⟨w.heap.size, 0, none⟩) := hsame 5 (by decide)
      simp [Act.eval] at z5
      exact wp_val (.pointer (some ⟨w.heap.size, 1, none⟩)) x (by simp [execOp, z5, go_sem, c1, c2, c8]) ⟨rfl, hJ.pure 1 (by decide) (by decide)⟩
    · intro l a x hJ hsz hjn hdep hsame hval
      have c1 := (But.cell (j := 1) hJ.but hz lt1).trans hc1; have c2 := (But.cell (j := 2) hJ.but hz lt1).trans hc2; have c8 := (But.cell (j := 8) hJ.but hz lt1).trans hc8
      have z83 : a.eval (.tmp 83) = .pointer (some ⟨w.heap.size, 1, none⟩) := hval 1 83 (hdep ⟨1, .data⟩ (by simp) rfl) rfl
      simp [Act.eval] at z83
      exact wp_val (.int .i64 a0.k) x (by simp [execOp, z83, go_sem, c1, c2, c8]) ⟨rfl, hJ.pure 2 (by decide) (by decide)⟩
    · intro l a x hJ hsz hjn hdep hsame hval
      have c1 := (But.cell (j := 1) hJ.but hz lt1).trans hc1; have c2 := (But.cell (j := 2) hJ.but hz lt1).trans hc2; have c8 := (But.cell (j := 8) hJ.but hz lt1).trans hc8
      have z5 : a.eval (.tmp 5) = .pointer (some ⟨w.heap.size, 0, none⟩) := hsame 5 (by decide)
      simp [Act.eval] at z5
      exact wp_val (.pointer (some ⟨w.heap.size, 2, none⟩)) x (by simp [execOp, z5, go_sem, c1, c2, c8]) ⟨rfl, hJ.pure 3 (by decide) (by decide)⟩
    · intro l a x hJ hsz hjn hdep hsame hval
      have c1 := (But.cell (j := 1) hJ.but hz lt1).trans hc1; have c2 := (But.cell (j := 2) hJ.but hz lt1).trans hc2; have c8 := (But.cell (j := 8) hJ.but hz lt1).trans hc8
      have z85 : a.eval (.tmp 85) = .pointer (some ⟨w.heap.size, 2, none⟩) := hval 3 85 (hdep ⟨3, .data⟩ (by simp) rfl) rfl
      simp [Act.eval] at z85
      exact wp_val (.int .i64 a0.at_) x (by simp [execOp, z85, go_sem, c1, c2, c8]) ⟨rfl, hJ.pure 4 (by decide) (by decide)⟩
    · intro l a x hJ hsz hjn hdep hsame hval
      have c1 := (But.cell (j := 1) hJ.but hz lt1).trans hc1; have c2 := (But.cell (j := 2) hJ.but hz lt1).trans hc2; have c8 := (But.cell (j := 8) hJ.but hz lt1).trans hc8
      have z5 : a.eval (.tmp 5) = .pointer (some ⟨w.heap.size, 0, none⟩) := hsame 5 (by decide)
      simp [Act.eval] at z5
      exact wp_val (.pointer (some ⟨w.heap.size, 8, none⟩)) x (by simp [execOp, z5, go_sem, c1, c2, c8]) ⟨rfl, hJ.pure 5 (by decide) (by decide)⟩
    · intro l a x hJ hsz hjn hdep hsame hval
      have c1 := (But.cell (j := 1) hJ.but hz lt1).trans hc1; have c2 := (But.cell (j := 2) hJ.but hz lt1).trans hc2; have c8 := (But.cell (j := 8) hJ.but hz lt1).trans hc8
      have z87 : a.eval (.tmp 87) = .pointer (some ⟨w.heap.size, 8, none⟩) := hval 5 87 (hdep ⟨5, .data⟩ (by simp) rfl) rfl
      simp [Act.eval] at z87
      exact wp_val (.int .u8 a0.bits) x (by simp [execOp, z87, go_sem, c1, c2, c8]) ⟨rfl, hJ.pure 6 (by decide) (by decide)⟩
    · intro l a x hJ hsz hjn hdep hsame hval
      have c1 := (But.cell (j := 1) hJ.but hz lt1).trans hc1; have c2 := (But.cell (j := 2) hJ.but hz lt1).trans hc2; have c8 := (But.cell (j := 8) hJ.but hz lt1).trans hc8
      have z82 : a.eval (.tmp 82) = .pointer (some ⟨S, 0, none⟩) := hval 0 82 (hdep ⟨0, .data⟩ (by simp) rfl) rfl
      have z84 : a.eval (.tmp 84) = .int .i64 a0.k := hval 2 84 (hdep ⟨2, .data⟩ (by simp) rfl) rfl
      have z86 : a.eval (.tmp 86) = .int .i64 a0.at_ := hval 4 86 (hdep ⟨4, .data⟩ (by simp) rfl) rfl
      have z88 : a.eval (.tmp 88) = .int .u8 a0.bits := hval 6 88 (hdep ⟨6, .data⟩ (by simp) rfl) rfl
      simp [Act.eval] at z82 z84 z86 z88
      obtain ⟨X, Y, hp⟩ := hJ.at1 hjn
      exact wp_callF 19 _ _ rfl #[.pointer (some ⟨S, 0, none⟩), .int .i64 a0.k, .int .i64 a0.at_, .int .u8 a0.bits] (by simp [execOp, z82, z84, z86, z88, go_sem]) ((TurnX hp.net a0.k a0.at_ a0.bits HA.out.1 HA.out.2).mono fun e y ⟨h1, h2, h3⟩ => ⟨_, h1, congrArg (fun v => Act.put a _ v) (congrArg (Value.int .i64) HE.out.1) , hJ.put1 (by rw [hsz]; decide) (by decide) (hp.left (h2.mono more_self) h3)⟩)
    · intro l a x hJ hsz hjn hdep hsame hval
      have c1 := (But.cell (j := 1) hJ.but hz lt1).trans hc1; have c2 := (But.cell (j := 2) hJ.but hz lt1).trans hc2; have c8 := (But.cell (j := 8) hJ.but hz lt1).trans hc8
      have z1 : a.eval (.tmp 1) = .pointer (some ⟨R, 0, none⟩) := hsame 1 (by decide)
      simp [Act.eval] at z1
      exact wp_val (.pointer (some ⟨R, 0, none⟩)) x (by simp [execOp, z1, go_sem, c1, c2, c8]) ⟨rfl, hJ.pure 8 (by decide) (by decide)⟩
    · intro l a x hJ hsz hjn hdep hsame hval
      have c1 := (But.cell (j := 1) hJ.but hz lt1).trans hc1; have c2 := (But.cell (j := 2) hJ.but hz lt1).trans hc2; have c8 := (But.cell (j := 8) hJ.but hz lt1).trans hc8
      have z5 : a.eval (.tmp 5) = .pointer (some ⟨w.heap.size, 0, none⟩) := hsame 5 (by decide)
      simp [Act.eval] at z5
      exact wp_val (.pointer (some ⟨w.heap.size, 1, none⟩)) x (by simp [execOp, z5, go_sem, c1, c2, c8]) ⟨rfl, hJ.pure 9 (by decide) (by decide)⟩
    · intro l a x hJ hsz hjn hdep hsame hval
      have c1 := (But.cell (j := 1) hJ.but hz lt1).trans hc1; have c2 := (But.cell (j := 2) hJ.but hz lt1).trans hc2; have c8 := (But.cell (j := 8) hJ.but hz lt1).trans hc8
      have z91 : a.eval (.tmp 91) = .pointer (some ⟨w.heap.size, 1, none⟩) := hval 9 91 (hdep ⟨9, .data⟩ (by simp) rfl) rfl
      simp [Act.eval] at z91
      exact wp_val (.int .i64 a0.k) x (by simp [execOp, z91, go_sem, c1, c2, c8]) ⟨rfl, hJ.pure 10 (by decide) (by decide)⟩
    · intro l a x hJ hsz hjn hdep hsame hval
      have c1 := (But.cell (j := 1) hJ.but hz lt1).trans hc1; have c2 := (But.cell (j := 2) hJ.but hz lt1).trans hc2; have c8 := (But.cell (j := 8) hJ.but hz lt1).trans hc8
      have z5 : a.eval (.tmp 5) = .pointer (some ⟨w.heap.size, 0, none⟩) := hsame 5 (by decide)
      simp [Act.eval] at z5
      exact wp_val (.pointer (some ⟨w.heap.size, 2, none⟩)) x (by simp [execOp, z5, go_sem, c1, c2, c8]) ⟨rfl, hJ.pure 11 (by decide) (by decide)⟩
    · intro l a x hJ hsz hjn hdep hsame hval
      have c1 := (But.cell (j := 1) hJ.but hz lt1).trans hc1; have c2 := (But.cell (j := 2) hJ.but hz lt1).trans hc2; have c8 := (But.cell (j := 8) hJ.but hz lt1).trans hc8
      have z93 : a.eval (.tmp 93) = .pointer (some ⟨w.heap.size, 2, none⟩) := hval 11 93 (hdep ⟨11, .data⟩ (by simp) rfl) rfl
      simp [Act.eval] at z93
      exact wp_val (.int .i64 a0.at_) x (by simp [execOp, z93, go_sem, c1, c2, c8]) ⟨rfl, hJ.pure 12 (by decide) (by decide)⟩
    · intro l a x hJ hsz hjn hdep hsame hval
      have c1 := (But.cell (j := 1) hJ.but hz lt1).trans hc1; have c2 := (But.cell (j := 2) hJ.but hz lt1).trans hc2; have c8 := (But.cell (j := 8) hJ.but hz lt1).trans hc8
      have z5 : a.eval (.tmp 5) = .pointer (some ⟨w.heap.size, 0, none⟩) := hsame 5 (by decide)
      simp [Act.eval] at z5
      exact wp_val (.pointer (some ⟨w.heap.size, 8, none⟩)) x (by simp [execOp, z5, go_sem, c1, c2, c8]) ⟨rfl, hJ.pure 13 (by decide) (by decide)⟩
    · intro l a x hJ hsz hjn hdep hsame hval
      have c1 := (But.cell (j := 1) hJ.but hz lt1).trans hc1; have c2 := (But.cell (j := 2) hJ.but hz lt1).trans hc2; have c8 := (But.cell (j := 8) hJ.but hz lt1).trans hc8
      have z95 : a.eval (.tmp 95) = .pointer (some ⟨w.heap.size, 8, none⟩) := hval 13 95 (hdep ⟨13, .data⟩ (by simp) rfl) rfl
      simp [Act.eval] at z95
      exact wp_val (.int .u8 a0.bits) x (by simp [execOp, z95, go_sem, c1, c2, c8]) ⟨rfl, hJ.pure 14 (by decide) (by decide)⟩
    · intro l a x hJ hsz hjn hdep hsame hval
      have c1 := (But.cell (j := 1) hJ.but hz lt1).trans hc1; have c2 := (But.cell (j := 2) hJ.but hz lt1).trans hc2; have c8 := (But.cell (j := 8) hJ.but hz lt1).trans hc8
      have z90 : a.eval (.tmp 90) = .pointer (some ⟨R, 0, none⟩) := hval 8 90 (hdep ⟨8, .data⟩ (by simp) rfl) rfl
      have z92 : a.eval (.tmp 92) = .int .i64 a0.k := hval 10 92 (hdep ⟨10, .data⟩ (by simp) rfl) rfl
      have z94 : a.eval (.tmp 94) = .int .i64 a0.at_ := hval 12 94 (hdep ⟨12, .data⟩ (by simp) rfl) rfl
      have z96 : a.eval (.tmp 96) = .int .u8 a0.bits := hval 14 96 (hdep ⟨14, .data⟩ (by simp) rfl) rfl
      simp [Act.eval] at z90 z92 z94 z96
      obtain ⟨X, Y, hp⟩ := hJ.at2 hjn
      exact wp_callF 31 _ _ rfl #[.pointer (some ⟨R, 0, none⟩), .int .i64 a0.k, .int .i64 a0.at_, .int .u8 a0.bits] (by simp [execOp, z90, z92, z94, z96, go_sem]) ((rTurnX hp.ref a0.k a0.at_ a0.bits HA.out.1 HA.out.2).mono fun e y ⟨h1, h2, h3⟩ => ⟨_, h1, congrArg (fun v => Act.put a _ v) (congrArg (Value.int .i64) HE.out.2), hJ.put2 (by rw [hsz]; decide) (by decide) (hp.right (h2.mono more_self) h3)⟩)
    · intro l a x hJ hsz hjn hdep hsame hval
      have c1 := (But.cell (j := 1) hJ.but hz lt1).trans hc1; have c2 := (But.cell (j := 2) hJ.but hz lt1).trans hc2; have c8 := (But.cell (j := 8) hJ.but hz lt1).trans hc8
      have z89 : a.eval (.tmp 89) = .int .i64 r1 := hval 7 89 (hdep ⟨7, .data⟩ (by simp) rfl) rfl
      have z97 : a.eval (.tmp 97) = .int .i64 r2 := hval 15 97 (hdep ⟨15, .data⟩ (by simp) rfl) rfl
      simp [Act.eval] at z89 z97
      exact wp_val (.bool (r1 == r2)) x (by simp [execOp, z89, z97, go_sem, c1, c2, c8]) ⟨rfl, hJ.pure 16 (by decide) (by decide)⟩
    · intro l a x hJ hsz hjn hdep hsame hval
      have c1 := (But.cell (j := 1) hJ.but hz lt1).trans hc1; have c2 := (But.cell (j := 2) hJ.but hz lt1).trans hc2; have c8 := (But.cell (j := 8) hJ.but hz lt1).trans hc8
      have z98 : a.eval (.tmp 98) = .bool (r1 == r2) := hval 16 98 (hdep ⟨16, .data⟩ (by simp) rfl) rfl
      simp [Act.eval] at z98
      exact wp_val (.bool (r1 == r2)) x (by simp [execOp, z98, go_sem, c1, c2, c8]) ⟨rfl, hJ.pure 17 (by decide) (by decide)⟩
  intro x hJ
  obtain ⟨h2, hb⟩ := JV.fin hJ (by decide) (by decide)
  have HR := Lib.hid (And.intro h2 hb)
  clear h2 hb hJ
  simp [Act.put]
  go_wp2_with fail
  go_ret
  exact ⟨⟨_, rfl⟩, HR.out.1.less (fun k hk => .inl hk), ((ButX.ofBelow HT.out.2).mono (fun k hk => hk)).trans ((But.less HR.out.2 (fun k hk => .inl hk)).mono more_self)⟩
end Go.Proofs.Ytmdhpjbahenbhaa.Net
