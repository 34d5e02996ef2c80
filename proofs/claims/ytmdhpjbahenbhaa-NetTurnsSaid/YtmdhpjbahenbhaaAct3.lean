/-
  Contracts: a call of both nets (act): Send; all kinds.
-/
import Derived.Test.YtmdhpjbahenbhaaAct2
import Derived.Test.YtmdhpjbahenbhaaMonoU
namespace Go.Proofs.Ytmdhpjbahenbhaa.Net
open Go.RowKit Mem Cells Ops Go.Maps
set_option linter.unusedVariables false
set_option linter.unusedSimpArgs false

/-- append(v, u...) of bytes, v of the call's own: and where the block is. -/
theorem append8 {w : World} {B : Nat} {v u : Value} {xs ys : List Int} (hown : Row .u8 5 B w v xs) (hr : Reads .u8 w u ys) (h63 : xs.length + ys.length ≤ 140737488355328) (hB : B ≤ w.heap.size) :
    ∃ v' w', (Builtin.append_ #[31, 31] 31 #[v, u]).run Try.prog w = .ok v' w' ∧ Row .u8 5 B w' v' (xs ++ ys) ∧ w.grownBy w' v.ownBlock ∧ (v'.ownBlock = v.ownBlock ∨ v'.ownBlock = some w.heap.size) := by
  obtain ⟨i, hi, hz0, hz1, hz2⟩ := info_parts info5
  obtain ⟨p, c, rfl, h1, h2, h3, h4⟩ := hr
  cases p with
  | none =>
    obtain rfl := h3 rfl
    have hy : ys = [] := List.eq_nil_of_length_eq_zero (by omega)
    subst hy
    exact ⟨v, w, run_append_owned_none (P := Try.prog) w B 31 31 5 i 1 Try.underlying31 hi v xs.length _ hown, by rw [List.append_nil]; exact hown, ⟨rfl, rfl, rfl, Nat.le_refl _, fun _ _ _ => rfl⟩, .inl rfl⟩
  | some ad =>
    obtain ⟨v', w', hrun, h5, h6, _, h7⟩ := run_append_own_at (P := Try.prog) w B 31 31 5 i _ 1 1 Try.underlying31 hi hz0 hz1 hz2 rfl (by omega) v xs.length _ hown ad ys.length c (ys.map (Value.int .u8)) (by simp) (by
      intro j q hj
      have hjl : j < ys.length := by
        rcases Nat.lt_or_ge j ys.length with h | h
        · exact h
        · simp [List.getElem?_eq_none (show (ys.map (Value.int .u8)).length ≤ j by simpa using h)] at hj
      obtain ⟨b, off, hp, _, hc⟩ := h4 (by omega)
      cases hp
      rw [add_none, hc j hjl]
      simp [List.getElem?_eq_getElem hjl] at hj
      subst hj
      simp [List.getD, List.getElem?_eq_getElem hjl]) (by
      intro q hq
      obtain ⟨_, _, rfl⟩ := List.mem_map.1 hq
      rfl) (by unfold maxLen; omega) (by omega) hB
    exact ⟨v', w', hrun, by simpa [Row] using h5, h6, h7⟩
/-- Blocks that neither net has are written. -/
theorem Two.grown {Z : Nat → Prop} {w w' : World} {S R : Nat} {hosts : Int} {fs gs : List F} {cut cut' : Int → Int → Int → Bool} {n : Nat} {r : Option Nat} (h : Two Z w S R hosts fs gs cut cut' n) (hg : w.grownBy w' r) (hr : ∀ q, r = some q → Z q) : Two (more Z w w') w' S R hosts fs gs cut cut' n := by
  obtain ⟨X, Y, h⟩ := h
  have hs := hg.size
  have hb : ButX (fun k => r = some k) w w' := ButX.ofGrown hg (fun k e => e)
  refine ⟨X, Y, h.net.others hb (fun k hk e => (h.x k hk).1 (hr k e)), h.ref.others hb (fun k hk e => (h.y k hk).1 (hr k e)), h.apart, fun k hk => ⟨?_, by have := (h.x k hk).2; omega⟩, fun k hk => ⟨?_, by have := (h.y k hk).2; omega⟩, ?_⟩
  · rintro (hz | hz)
    · exact (h.x k hk).1 hz
    · have := (h.x k hk).2; omega
  · rintro (hz | hz)
    · exact (h.y k hk).1 hz
    · have := (h.y k hk).2; omega
  · rintro k (hz | hz)
    · have := h.z k hz; omega
    · exact hz.2
/-- Send on both nets: what is known, by which operations have run (5 the empty slice, 8 the append, 9 the net's Send, 17 the reference's). -/
structure JS (Z : Nat → Prop) (w0 : World) (S R : Nat) (hosts : Int) (fs fs' : List F) (cut : Int → Int → Int → Bool) (n : Nat) (xs : List Int) (l : Array Bool) (u : Nat → Value) (x : World) : Prop where
  two : ∃ Z', (∀ k, Z k → Z' k) ∧ Two Z' x S R hosts (if l.getD 9 false = true then fs' else fs) (if l.getD 17 false = true then fs' else fs) cut cut n ∧
    (l.getD 5 false = true → l.getD 8 false = false → Row .u8 5 w0.heap.size x (u 5) [] ∧ ∀ q, (u 5).ownBlock = some q → Z' q) ∧ (l.getD 8 false = true → l.getD 9 false = false → Row .u8 5 w0.heap.size x (u 8) xs ∧ ∀ q, (u 8).ownBlock = some q → Z' q)
  but : ButX (fun k => ¬ Z k) w0 x
  ord : l.getD 9 false = true → l.getD 8 false = true
  ord8 : l.getD 8 false = true → l.getD 5 false = true
section
variable {Z : Nat → Prop} {w0 : World} {S R : Nat} {hosts : Int} {fs fs' : List F} {cut : Int → Int → Int → Bool} {n : Nat} {xs : List Int} {l : Array Bool} {u : Nat → Value} {x y : World}
theorem upd_ne {u : Nat → Value} {i j : Nat} {v : Value} (h : i ≠ j) : MonoU.upd u j v i = u i := by unfold MonoU.upd; rw [if_neg h]
theorem upd_same {u : Nat → Value} {j : Nat} {v : Value} : MonoU.upd u j v j = v := by unfold MonoU.upd; rw [if_pos rfl]
theorem JS.pure (h : JS Z w0 S R hosts fs fs' cut n xs l u x) (j : Nat) (v : Value) (h5 : j ≠ 5) (h8 : j ≠ 8) (h9 : j ≠ 9) (h17 : j ≠ 17) : JS Z w0 S R hosts fs fs' cut n xs (l.setIfInBounds j true) (MonoU.upd u j v) x := by
  obtain ⟨a, b, c, c8⟩ := h
  constructor
  · rw [MonoU.getD_set_ne h5, MonoU.getD_set_ne h8, MonoU.getD_set_ne h9, MonoU.getD_set_ne h17, upd_ne (Ne.symm h5), upd_ne (Ne.symm h8)]; exact a
  · exact b
  · rw [MonoU.getD_set_ne h8, MonoU.getD_set_ne h9]; exact c
  · rw [MonoU.getD_set_ne h5, MonoU.getD_set_ne h8]; exact c8
theorem JS.start (h : Two Z w0 S R hosts fs fs cut cut n) (m : Nat) : JS Z w0 S R hosts fs fs' cut n xs (Array.replicate m false) u w0.drew := by
  have e : ∀ i, (Array.replicate m false).getD i false = false := fun i => by simp only [Array.getD_eq_getD_getElem?, Array.getElem?_replicate]; split <;> rfl
  constructor
  · rw [e, e, e, e]
    exact ⟨Z, fun _ h => h, h.below ((Below.refl _ _).drew), (fun h => by cases h), (fun h => by cases h)⟩
  · exact ButX.ofBelow ((Below.refl _ _).drew)
  · rw [e]; intro h; cases h
  · rw [e]; intro h; cases h
theorem JS.fin {m : Nat} (h : JS Z w0 S R hosts fs fs' cut n xs (Array.replicate m true) u x) (hm : 17 < m) : Two Z x S R hosts fs' fs' cut cut n ∧ ButX (fun k => ¬ Z k) w0 x := by
  have e : ∀ i, i < m → (Array.replicate m true).getD i false = true := fun i hi => by simp [Array.getD_eq_getD_getElem?, Array.getElem?_replicate, hi]
  obtain ⟨⟨Z', hz, ht, _⟩, b, _, _⟩ := h
  rw [e 9 (by omega), e 17 hm] at ht
  exact ⟨ht.less hz, b⟩
theorem JS.step5 (h : JS Z w0 S R hosts fs fs' cut n xs l u x) (hs : 5 < l.size) (hn8 : l.getD 8 false = false) (v : Value) (hb : Below x.heap.size x y) (hr : Row .u8 5 x.heap.size y v []) : JS Z w0 S R hosts fs fs' cut n xs (l.setIfInBounds 5 true) (MonoU.upd u 5 v) y := by
  obtain ⟨⟨Z', hz, ht, hq5, hq8⟩, b, c, c8⟩ := h
  have hsz := b.size
  constructor
  · rw [MonoU.getD_set_ne (show (5 : Nat) ≠ 9 by decide), MonoU.getD_set_ne (show (5 : Nat) ≠ 17 by decide), MonoU.getD_set_ne (show (5 : Nat) ≠ 8 by decide), upd_same, upd_ne (show (8 : Nat) ≠ 5 by decide)]
    refine ⟨more Z' x y, fun k hk => .inl (hz k hk), ht.new hb, fun _ _ => ⟨Row.mono hr hsz, fun q hq => .inr (hr.lt q hq)⟩, fun h8 => ?_⟩
    rw [hn8] at h8; cases h8
  · exact But.trans b (ButX.ofBelow hb)
  · rw [MonoU.getD_set_ne (show (5 : Nat) ≠ 9 by decide), MonoU.getD_set_ne (show (5 : Nat) ≠ 8 by decide)]; exact c
  · rw [MonoU.getD_set_same hs]; intro _; rfl
theorem JS.step8 (h : JS Z w0 S R hosts fs fs' cut n xs l u x) (hs : 8 < l.size) (h5 : l.getD 5 false = true) (hn8 : l.getD 8 false = false) (hZ : ∀ k, Z k → k < w0.heap.size) (dv : Value) (hr : Reads .u8 x dv xs) (hl : xs.length ≤ 140737488351232) :
    ∃ v y, (Builtin.append_ #[31, 31] 31 #[u 5, dv]).run Try.prog x = .ok v y ∧ JS Z w0 S R hosts fs fs' cut n xs (l.setIfInBounds 8 true) (MonoU.upd u 8 v) y := by
  obtain ⟨⟨Z', hz, ht, hq5, hq8⟩, b, c, c8⟩ := h
  obtain ⟨r5, z5⟩ := hq5 h5 hn8
  have hsz := b.size
  obtain ⟨v, y, hrun, hrow, hg, hw⟩ := append8 r5 hr (by simp; omega) hsz
  rw [List.nil_append] at hrow
  refine ⟨v, y, hrun, ?_, ?_, ?_, ?_⟩
  · rw [MonoU.getD_set_ne (show (8 : Nat) ≠ 9 by decide), MonoU.getD_set_ne (show (8 : Nat) ≠ 17 by decide), MonoU.getD_set_ne (show (8 : Nat) ≠ 5 by decide), MonoU.getD_set_same hs, upd_same]
    refine ⟨more Z' x y, fun k hk => .inl (hz k hk), ht.grown hg z5, fun _ h => by (cases h), fun _ _ => ⟨hrow, fun q hq => ?_⟩⟩
    rcases hw with e | e
    · exact .inl (z5 q (by rw [← e]; exact hq))
    · rw [e] at hq; cases hq; exact .inr ⟨Nat.le_refl _, (hrow.lt _ e).2⟩
  · exact But.trans b (ButX.ofGrown hg (fun k e hk => by have := (r5.lt k e).1; have := hZ k hk; omega))
  · rw [MonoU.getD_set_ne (show (8 : Nat) ≠ 9 by decide), MonoU.getD_set_same hs]; intro _; rfl
  · rw [MonoU.getD_set_ne (show (8 : Nat) ≠ 5 by decide)]; intro _; exact h5
theorem JS.at9 (h : JS Z w0 S R hosts fs fs' cut n xs l u x) (hn9 : l.getD 9 false = false) (h8 : l.getD 8 false = true) : ∃ Z' X Y, (∀ k, Z k → Z' k) ∧ Pair Z' x S R hosts fs (if l.getD 17 false = true then fs' else fs) cut cut n X Y ∧ Reads .u8 x (u 8) xs := by
  obtain ⟨⟨Z', hz, ⟨X, Y, ht⟩, hq5, hq8⟩, b, c, c8⟩ := h
  rw [hn9] at ht
  exact ⟨Z', X, Y, hz, ht, (hq8 h8 hn9).1.reads⟩
theorem JS.step9 (h : JS Z w0 S R hosts fs fs' cut n xs l u x) (hs : 9 < l.size) (h8 : l.getD 8 false = true) (v : Value) (Z' : Nat → Prop) (hz : ∀ k, Z k → Z' k) (ht : Two Z' y S R hosts fs' (if l.getD 17 false = true then fs' else fs) cut cut n ∧ ButX (fun k => ¬ Z' k) x y) : JS Z w0 S R hosts fs fs' cut n xs (l.setIfInBounds 9 true) (MonoU.upd u 9 v) y := by
  obtain ⟨_, b, c, c8⟩ := h
  constructor
  · rw [MonoU.getD_set_same hs, MonoU.getD_set_ne (show (9 : Nat) ≠ 17 by decide), MonoU.getD_set_ne (show (9 : Nat) ≠ 5 by decide), MonoU.getD_set_ne (show (9 : Nat) ≠ 8 by decide)]
    exact ⟨Z', hz, ht.1, fun _ e => (by rw [h8] at e; cases e), fun _ e => (by cases e)⟩
  · exact But.trans b (But.less ht.2 hz)
  · rw [MonoU.getD_set_same hs, MonoU.getD_set_ne (show (9 : Nat) ≠ 8 by decide)]; intro _; exact h8
  · rw [MonoU.getD_set_ne (show (9 : Nat) ≠ 5 by decide), MonoU.getD_set_ne (show (9 : Nat) ≠ 8 by decide)]; exact c8
theorem JS.at17 (h : JS Z w0 S R hosts fs fs' cut n xs l u x) (hn : l.getD 17 false = false) : ∃ Z' X Y, (∀ k, Z k → Z' k) ∧ Pair Z' x S R hosts (if l.getD 9 false = true then fs' else fs) fs cut cut n X Y ∧
    (l.getD 5 false = true → l.getD 8 false = false → Row .u8 5 w0.heap.size x (u 5) [] ∧ ∀ q, (u 5).ownBlock = some q → Z' q) ∧ (l.getD 8 false = true → l.getD 9 false = false → Row .u8 5 w0.heap.size x (u 8) xs ∧ ∀ q, (u 8).ownBlock = some q → Z' q) := by
  obtain ⟨⟨Z', hz, ⟨X, Y, ht⟩, hq5, hq8⟩, b, c, c8⟩ := h
  rw [hn] at ht
  exact ⟨Z', X, Y, hz, ht, hq5, hq8⟩
theorem JS.step17 (h : JS Z w0 S R hosts fs fs' cut n xs l u x) (hs : 17 < l.size) (v : Value) (Z' : Nat → Prop) (hz : ∀ k, Z k → Z' k)
    (q5 : l.getD 5 false = true → l.getD 8 false = false → Row .u8 5 w0.heap.size x (u 5) [] ∧ ∀ q, (u 5).ownBlock = some q → Z' q) (q8 : l.getD 8 false = true → l.getD 9 false = false → Row .u8 5 w0.heap.size x (u 8) xs ∧ ∀ q, (u 8).ownBlock = some q → Z' q)
    (ht : Two Z' y S R hosts (if l.getD 9 false = true then fs' else fs) fs' cut cut n ∧ ButX (fun k => ¬ Z' k) x y) : JS Z w0 S R hosts fs fs' cut n xs (l.setIfInBounds 17 true) (MonoU.upd u 17 v) y := by
  obtain ⟨_, b, c, c8⟩ := h
  constructor
  · rw [MonoU.getD_set_same hs, MonoU.getD_set_ne (show (17 : Nat) ≠ 9 by decide), MonoU.getD_set_ne (show (17 : Nat) ≠ 5 by decide), MonoU.getD_set_ne (show (17 : Nat) ≠ 8 by decide), upd_ne (show (5 : Nat) ≠ 17 by decide), upd_ne (show (8 : Nat) ≠ 17 by decide)]
    exact ⟨Z', hz, ht.1, fun e1 e2 => ⟨row_oth (q5 e1 e2).1 ht.2 (fun g hg hn => hn ((q5 e1 e2).2 g hg)), (q5 e1 e2).2⟩, fun e1 e2 => ⟨row_oth (q8 e1 e2).1 ht.2 (fun g hg hn => hn ((q8 e1 e2).2 g hg)), (q8 e1 e2).2⟩⟩
  · exact But.trans b (But.less ht.2 hz)
  · rw [MonoU.getD_set_ne (show (17 : Nat) ≠ 9 by decide), MonoU.getD_set_ne (show (17 : Nat) ≠ 8 by decide)]; exact c
  · rw [MonoU.getD_set_ne (show (17 : Nat) ≠ 5 by decide), MonoU.getD_set_ne (show (17 : Nat) ≠ 8 by decide)]; exact c8
end
set_option maxRecDepth 100000 in
set_option maxHeartbeats 1600000 in
theorem act1 {Z : Nat → Prop} {w : World} {S R : Nat} {hosts : Int} {fs : List F} {cut : Int → Int → Int → Bool} {n : Nat} (h : Two Z w S R hosts fs fs cut cut n) (a0 : A) (dv : Value) (hk : a0.kind = 1) (hd : dv.oneCell' = true) (hrd : ∀ x, ButX (fun k => ¬ Z k) w x → Reads .u8 x dv a0.bytes) (hx : ∀ b ∈ a0.bytes, 0 ≤ b ∧ b ≤ 255) (hl : a0.bytes.length ≤ 140737488351232) :
    Calls Try.prog 16 #[.pointer (some ⟨S, 0, none⟩), .pointer (some ⟨R, 0, none⟩), .agg (rowA a0 dv)] w (ActPost Z S R hosts (sendL hosts cut a0.fh a0.fp a0.th a0.tp a0.bytes fs) cut n w) := by
  have H := Lib.hid h
  have HK := Lib.hid hk
  have HA := Lib.hid (And.intro hx hl)
  have HRD := Lib.hid hrd
  clear h hk hx hl hrd
  go_enter Try.func16, Try.ntmps16
  go_upto_region 3 with (first
    | ((with_reducible refine wpl_boxAt rfl 52 (.tmp 2) rfl (rowA a0 dv) ?_ ?_); rfl; go_must (intro w1 hat1 hb1 hs1; have HT := Lib.hid (And.intro (H.out.new hb1) hb1); have hc0 := hat1.cell 0; have hc7 := hat1.cell 7; simp [rowA] at hc0 hc7; rw [HK.out] at hc0; have HAT := Lib.hid hat1; have lt1 := hat1.lt; clear hs1 hb1 hat1)))
  have hz : more Z w w1 w.heap.size := .inr ⟨Nat.le_refl _, lt1⟩
  have HZ := Lib.hid (show ∀ k, more Z w w1 k → k < w1.heap.size by
    obtain ⟨X, Y, hp⟩ := HT.out.1
    exact hp.z)
  have hbw : ∀ x, ButX (fun k => ¬ more Z w w1 k) w1 x → ButX (fun k => ¬ Z k) w x := fun x hx => (ButX.ofBelow HT.out.2).trans ((But.less hx (fun k hk => .inl hk)).mono more_self)
  have hrd : ∀ x, ButX (fun k => ¬ more Z w w1 k) w1 x → Reads .u8 x dv a0.bytes := fun x hx => HRD.out x (hbw x hx)
  have hra : ∀ x, ButX (fun k => ¬ more Z w w1 k) w1 x → At x w.heap.size 52 (rowA a0 dv) := fun x hx => But.at_ HAT.out hx hz
  have hra3 : ∀ x, ButX (fun k => ¬ more Z w w1 k) w1 x → x.rangeAt w.heap.size 3 [.int .i64 a0.fh, .int .i64 a0.fp] := fun x hx j v hv => by
    rw [(hra x hx).cell (3 + j)]
    match j, hv with
    | 0, hv => exact hv
    | 1, hv => exact hv
  have hra5 : ∀ x, ButX (fun k => ¬ more Z w w1 k) w1 x → x.rangeAt w.heap.size 5 [.int .i64 a0.th, .int .i64 a0.tp] := fun x hx j v hv => by
    rw [(hra x hx).cell (5 + j)]
    match j, hv with
    | 0, hv => exact hv
    | 1, hv => exact hv
  refine MonoU.wp_region_U [some 15, some 16, some 17, some 18, some 19, some 20, some 21, some 22, some 23, some 24, some 25, some 26, some 27, some 28, some 29, some 30, some 31, some 32, some 33, some 6] [some (.pointer (some ⟨S, 0, none⟩)), some (.pointer (some ⟨w.heap.size, 3, none⟩)), some (.agg #[.int .i64 a0.fh, .int .i64 a0.fp]), some (.pointer (some ⟨w.heap.size, 5, none⟩)), some (.agg #[.int .i64 a0.th, .int .i64 a0.tp]), none, some (.pointer (some ⟨w.heap.size, 7, none⟩)), some (dv), none, some (.int .i64 (sendE hosts a0.fh a0.fp a0.th a0.tp a0.bytes)), some (.pointer (some ⟨R, 0, none⟩)), some (.pointer (some ⟨w.heap.size, 3, none⟩)), some (.agg #[.int .i64 a0.fh, .int .i64 a0.fp]), some (.pointer (some ⟨w.heap.size, 5, none⟩)), some (.agg #[.int .i64 a0.th, .int .i64 a0.tp]), some (.pointer (some ⟨w.heap.size, 7, none⟩)), some (dv), some (.int .i64 (sendE hosts a0.fh a0.fp a0.th a0.tp a0.bytes)), some (.bool true), some (.bool true)] (JS (more Z w w1) w1 S R hosts fs (sendL hosts cut a0.fh a0.fp a0.th a0.tp a0.bytes fs) cut n a0.bytes) (by kernel_rfl) (by kernel_rfl) (by kernel_rfl) (fun _ => undef) ?_ ?_ ?_
  · exact JS.start HT.out.1 _
  · simp only [MonoU.OpGoals, and_true]
    refine ⟨?_, ?_, ?_, ?_, ?_, ?_, ?_, ?_, ?_, ?_, ?_, ?_, ?_, ?_, ?_, ?_, ?_, ?_, ?_, ?_⟩
    · intro l u a x hJ hsz hjn hdep hsame hval hfresh
      have z0 : a.eval (.tmp 0) = .pointer (some ⟨S, 0, none⟩) := hsame 0 (by decide)
      simp [Act.eval] at z0
      exact wp_val (.pointer (some ⟨S, 0, none⟩)) x (by simp [execOp, z0, go_sem]) ⟨.pointer (some ⟨S, 0, none⟩), rfl, (fun c e => by cases e; rfl), hJ.pure 0 _ (by decide) (by decide) (by decide) (by decide)⟩
    · intro l u a x hJ hsz hjn hdep hsame hval hfresh
      have z5 : a.eval (.tmp 5) = .pointer (some ⟨w.heap.size, 0, none⟩) := hsame 5 (by decide)
      simp [Act.eval] at z5
      exact wp_val (.pointer (some ⟨w.heap.size, 3, none⟩)) x (by simp [execOp, z5, go_sem]) ⟨.pointer (some ⟨w.heap.size, 3, none⟩), rfl, (fun c e => by cases e; rfl), hJ.pure 1 _ (by decide) (by decide) (by decide) (by decide)⟩
    · intro l u a x hJ hsz hjn hdep hsame hval hfresh
      have z16 : a.eval (.tmp 16) = .pointer (some ⟨w.heap.size, 3, none⟩) := hval 1 16 (hdep ⟨1, .data⟩ (by simp) rfl) rfl
      have hr := run_addrE (hra3 x hJ.but)
      exact wp_loadV 30 (.tmp 16) rfl _ _ z16 hr ⟨.agg #[.int .i64 a0.fh, .int .i64 a0.fp], rfl, (fun c e => by cases e; rfl), hJ.pure 2 _ (by decide) (by decide) (by decide) (by decide)⟩
    · intro l u a x hJ hsz hjn hdep hsame hval hfresh
      have z5 : a.eval (.tmp 5) = .pointer (some ⟨w.heap.size, 0, none⟩) := hsame 5 (by decide)
      simp [Act.eval] at z5
      exact wp_val (.pointer (some ⟨w.heap.size, 5, none⟩)) x (by simp [execOp, z5, go_sem]) ⟨.pointer (some ⟨w.heap.size, 5, none⟩), rfl, (fun c e => by cases e; rfl), hJ.pure 3 _ (by decide) (by decide) (by decide) (by decide)⟩
    · intro l u a x hJ hsz hjn hdep hsame hval hfresh
      have z18 : a.eval (.tmp 18) = .pointer (some ⟨w.heap.size, 5, none⟩) := hval 3 18 (hdep ⟨3, .data⟩ (by simp) rfl) rfl
      have hr := run_addrE (hra5 x hJ.but)
      exact wp_loadV 30 (.tmp 18) rfl _ _ z18 hr ⟨.agg #[.int .i64 a0.th, .int .i64 a0.tp], rfl, (fun c e => by cases e; rfl), hJ.pure 4 _ (by decide) (by decide) (by decide) (by decide)⟩
    · intro l u a x hJ hsz hjn hdep hsame hval hfresh
      have hn8 : l.getD 8 false = false := by
        cases h : l.getD 8 false with
        | false => rfl
        | true => exact absurd (hJ.ord8 h) (by rw [MonoU.getD_false hjn]; decide)
      exact wp_val (.slice (some ⟨x.heap.size, 0, none⟩) 0 0) (x.alloc (.cells #[] 5)) (by kernel_rfl) ⟨_, rfl, (fun c e => by cases e), hJ.step5 (by rw [hsz]; decide) hn8 _ ((Below.refl _ _).alloc (Nat.le_refl _) _) (Row.alloc_nil .u8 5 x (Nat.le_refl _))⟩
    · intro l u a x hJ hsz hjn hdep hsame hval hfresh
      have z5 : a.eval (.tmp 5) = .pointer (some ⟨w.heap.size, 0, none⟩) := hsame 5 (by decide)
      simp [Act.eval] at z5
      exact wp_val (.pointer (some ⟨w.heap.size, 7, none⟩)) x (by simp [execOp, z5, go_sem]) ⟨.pointer (some ⟨w.heap.size, 7, none⟩), rfl, (fun c e => by cases e; rfl), hJ.pure 6 _ (by decide) (by decide) (by decide) (by decide)⟩
    · intro l u a x hJ hsz hjn hdep hsame hval hfresh
      have z21 : a.eval (.tmp 21) = .pointer (some ⟨w.heap.size, 7, none⟩) := hval 6 21 (hdep ⟨6, .data⟩ (by simp) rfl) rfl
      simp [Act.eval] at z21
      have c7 := (But.cell (j := 7) hJ.but hz lt1).trans hc7
      exact wp_val dv x (by simp [execOp, z21, go_sem, c7]) ⟨dv, rfl, (fun c e => by cases e; rfl), hJ.pure 7 _ (by decide) (by decide) (by decide) (by decide)⟩
    · intro l u a x hJ hsz hjn hdep hsame hval hfresh
      have z20 : a.eval (.tmp 20) = u 5 := hval 5 20 (hdep ⟨5, .data⟩ (by simp) rfl) rfl
      have z22 : a.eval (.tmp 22) = dv := hval 7 22 (hdep ⟨7, .data⟩ (by simp) rfl) rfl
      obtain ⟨v, y, hrun, hj⟩ := hJ.step8 (by rw [hsz]; decide) (hdep ⟨5, .data⟩ (by simp) rfl) (MonoU.getD_false hjn) HZ.out dv (hrd x hJ.but) HA.out.2
      exact wp_appendV 31 (.tmp 20) (.tmp 22) rfl _ _ _ _ z20 z22 hrun ⟨v, rfl, (fun c e => by cases e), hj⟩
    · intro l u a x hJ hsz hjn hdep hsame hval hfresh
      have z15 : a.eval (.tmp 15) = .pointer (some ⟨S, 0, none⟩) := hval 0 15 (hdep ⟨0, .data⟩ (by simp) rfl) rfl
      have z17 : a.eval (.tmp 17) = .agg #[.int .i64 a0.fh, .int .i64 a0.fp] := hval 2 17 (hdep ⟨2, .data⟩ (by simp) rfl) rfl
      have z19 : a.eval (.tmp 19) = .agg #[.int .i64 a0.th, .int .i64 a0.tp] := hval 4 19 (hdep ⟨4, .data⟩ (by simp) rfl) rfl
      have z23 : a.eval (.tmp 23) = u 8 := hval 8 23 (hdep ⟨8, .data⟩ (by simp) rfl) rfl
      simp [Act.eval] at z15 z17 z19 z23
      have h8 : l.getD 8 false = true := hdep ⟨8, .data⟩ (by simp) rfl
      obtain ⟨Z2, X, Y, hz2, hp, hr8⟩ := hJ.at9 (MonoU.getD_false hjn) h8
      exact wp_callF 12 _ _ rfl #[.pointer (some ⟨S, 0, none⟩), .agg #[.int .i64 a0.fh, .int .i64 a0.fp], .agg #[.int .i64 a0.th, .int .i64 a0.tp], u 8] (by simp [execOp, z15, z17, z19, z23, go_sem]) ((SendX hp.net a0.fh a0.fp a0.th a0.tp (u 8) a0.bytes hr8 HA.out.1 (by have := HA.out.2; omega)).mono fun e y ⟨h1, h2, h3⟩ => ⟨_, h1, _, rfl, (fun c e => by cases e; rfl), hJ.step9 (by rw [hsz]; decide) h8 _ Z2 hz2 (hp.left h2 h3)⟩)
    · intro l u a x hJ hsz hjn hdep hsame hval hfresh
      have z1 : a.eval (.tmp 1) = .pointer (some ⟨R, 0, none⟩) := hsame 1 (by decide)
      simp [Act.eval] at z1
      exact wp_val (.pointer (some ⟨R, 0, none⟩)) x (by simp [execOp, z1, go_sem]) ⟨.pointer (some ⟨R, 0, none⟩), rfl, (fun c e => by cases e; rfl), hJ.pure 10 _ (by decide) (by decide) (by decide) (by decide)⟩
    · intro l u a x hJ hsz hjn hdep hsame hval hfresh
      have z5 : a.eval (.tmp 5) = .pointer (some ⟨w.heap.size, 0, none⟩) := hsame 5 (by decide)
      simp [Act.eval] at z5
      exact wp_val (.pointer (some ⟨w.heap.size, 3, none⟩)) x (by simp [execOp, z5, go_sem]) ⟨.pointer (some ⟨w.heap.size, 3, none⟩), rfl, (fun c e => by cases e; rfl), hJ.pure 11 _ (by decide) (by decide) (by decide) (by decide)⟩
    · intro l u a x hJ hsz hjn hdep hsame hval hfresh
      have z26 : a.eval (.tmp 26) = .pointer (some ⟨w.heap.size, 3, none⟩) := hval 11 26 (hdep ⟨11, .data⟩ (by simp) rfl) rfl
      have hr := run_addrE (hra3 x hJ.but)
      exact wp_loadV 30 (.tmp 26) rfl _ _ z26 hr ⟨.agg #[.int .i64 a0.fh, .int .i64 a0.fp], rfl, (fun c e => by cases e; rfl), hJ.pure 12 _ (by decide) (by decide) (by decide) (by decide)⟩
    · intro l u a x hJ hsz hjn hdep hsame hval hfresh
      have z5 : a.eval (.tmp 5) = .pointer (some ⟨w.heap.size, 0, none⟩) := hsame 5 (by decide)
      simp [Act.eval] at z5
      exact wp_val (.pointer (some ⟨w.heap.size, 5, none⟩)) x (by simp [execOp, z5, go_sem]) ⟨.pointer (some ⟨w.heap.size, 5, none⟩), rfl, (fun c e => by cases e; rfl), hJ.pure 13 _ (by decide) (by decide) (by decide) (by decide)⟩
    · intro l u a x hJ hsz hjn hdep hsame hval hfresh
      have z28 : a.eval (.tmp 28) = .pointer (some ⟨w.heap.size, 5, none⟩) := hval 13 28 (hdep ⟨13, .data⟩ (by simp) rfl) rfl
      have hr := run_addrE (hra5 x hJ.but)
      exact wp_loadV 30 (.tmp 28) rfl _ _ z28 hr ⟨.agg #[.int .i64 a0.th, .int .i64 a0.tp], rfl, (fun c e => by cases e; rfl), hJ.pure 14 _ (by decide) (by decide) (by decide) (by decide)⟩
    · intro l u a x hJ hsz hjn hdep hsame hval hfresh
      have z5 : a.eval (.tmp 5) = .pointer (some ⟨w.heap.size, 0, none⟩) := hsame 5 (by decide)
      simp [Act.eval] at z5
      exact wp_val (.pointer (some ⟨w.heap.size, 7, none⟩)) x (by simp [execOp, z5, go_sem]) ⟨.pointer (some ⟨w.heap.size, 7, none⟩), rfl, (fun c e => by cases e; rfl), hJ.pure 15 _ (by decide) (by decide) (by decide) (by decide)⟩
    · intro l u a x hJ hsz hjn hdep hsame hval hfresh
      have z30 : a.eval (.tmp 30) = .pointer (some ⟨w.heap.size, 7, none⟩) := hval 15 30 (hdep ⟨15, .data⟩ (by simp) rfl) rfl
      simp [Act.eval] at z30
      have c7 := (But.cell (j := 7) hJ.but hz lt1).trans hc7
      exact wp_val dv x (by simp [execOp, z30, go_sem, c7]) ⟨dv, rfl, (fun c e => by cases e; rfl), hJ.pure 16 _ (by decide) (by decide) (by decide) (by decide)⟩
    · intro l u a x hJ hsz hjn hdep hsame hval hfresh
      have z25 : a.eval (.tmp 25) = .pointer (some ⟨R, 0, none⟩) := hval 10 25 (hdep ⟨10, .data⟩ (by simp) rfl) rfl
      have z27 : a.eval (.tmp 27) = .agg #[.int .i64 a0.fh, .int .i64 a0.fp] := hval 12 27 (hdep ⟨12, .data⟩ (by simp) rfl) rfl
      have z29 : a.eval (.tmp 29) = .agg #[.int .i64 a0.th, .int .i64 a0.tp] := hval 14 29 (hdep ⟨14, .data⟩ (by simp) rfl) rfl
      have z31 : a.eval (.tmp 31) = dv := hval 16 31 (hdep ⟨16, .data⟩ (by simp) rfl) rfl
      simp [Act.eval] at z25 z27 z29 z31
      obtain ⟨Z2, X, Y, hz2, hp, h5, h8⟩ := hJ.at17 (MonoU.getD_false hjn)
      exact wp_callF 26 _ _ rfl #[.pointer (some ⟨R, 0, none⟩), .agg #[.int .i64 a0.fh, .int .i64 a0.fp], .agg #[.int .i64 a0.th, .int .i64 a0.tp], dv] (by simp [execOp, z25, z27, z29, z31, go_sem]) ((rSendX hp.ref a0.fh a0.fp a0.th a0.tp dv a0.bytes (hrd x hJ.but) HA.out.1 (by have := HA.out.2; omega)).mono fun e y ⟨h1, h2, h3⟩ => ⟨_, h1, _, rfl, (fun c e => by cases e; rfl), hJ.step17 (by rw [hsz]; decide) _ Z2 hz2 h5 h8 (hp.right h2 h3)⟩)
    · intro l u a x hJ hsz hjn hdep hsame hval hfresh
      have z24 : a.eval (.tmp 24) = .int .i64 (sendE hosts a0.fh a0.fp a0.th a0.tp a0.bytes) := hval 9 24 (hdep ⟨9, .data⟩ (by simp) rfl) rfl
      have z32 : a.eval (.tmp 32) = .int .i64 (sendE hosts a0.fh a0.fp a0.th a0.tp a0.bytes) := hval 17 32 (hdep ⟨17, .data⟩ (by simp) rfl) rfl
      simp [Act.eval] at z24 z32
      exact wp_val (.bool true) x (by simp [execOp, z24, z32, go_sem]) ⟨_, rfl, (fun c e => by cases e; rfl), hJ.pure 18 _ (by decide) (by decide) (by decide) (by decide)⟩
    · intro l u a x hJ hsz hjn hdep hsame hval hfresh
      have z33 : a.eval (.tmp 33) = .bool true := hval 18 33 (hdep ⟨18, .data⟩ (by simp) rfl) rfl
      simp [Act.eval] at z33
      exact wp_val (.bool true) x (by simp [execOp, z33, go_sem]) ⟨.bool true, rfl, (fun c e => by cases e; rfl), hJ.pure 19 _ (by decide) (by decide) (by decide) (by decide)⟩
  intro u x hJ
  obtain ⟨h2, hb⟩ := JS.fin hJ (by decide)
  have HE := Lib.hid (And.intro (h2.less (fun k hk => .inl hk)) (hbw x hb))
  clear h2 hb hJ hrd hra hra3 hra5 hbw
  simp [Act.put, MonoU.pick]
  go_wp2_with fail
  go_ret
  exact ⟨rfl, HE.out⟩
/-- A call of both nets. -/
theorem actX {Z : Nat → Prop} {w : World} {S R : Nat} {hosts : Int} {fs : List F} {cut : Int → Int → Int → Bool} {n : Nat} (h : Two Z w S R hosts fs fs cut cut n) (a0 : A) (dv : Value) (hd : dv.oneCell' = true) (hrd : ∀ x, ButX (fun k => ¬ Z k) w x → Reads .u8 x dv a0.bytes) (hok : a0.ok) (hn : n < 1000000) :
    Calls Try.prog 16 #[.pointer (some ⟨S, 0, none⟩), .pointer (some ⟨R, 0, none⟩), .agg (rowA a0 dv)] w (ActPost Z S R hosts (actL hosts cut a0 fs) (actC hosts cut a0) (actN hosts a0 n) w) := by
  have h1 := act1 h a0 dv
  have h2 := act2 h a0 dv
  have h3 := act3 h a0 dv
  have h4 := act4 h a0 dv
  have h5 := act5 h a0 dv
  have h6 := act6 h a0 dv
  have h7 := actElse h a0 dv
  unfold actL actC actN
  by_cases e1 : a0.kind = 1
  · simpa [e1] using h1 e1 hd hrd hok.bytes hok.len
  by_cases e2 : a0.kind = 2
  · simpa [e2] using h2 e2 hd
  by_cases e3 : a0.kind = 3
  · simpa [e3] using h3 e3 hd
  by_cases e4 : a0.kind = 4
  · simpa [e4] using h4 e4 hd
  by_cases e5 : a0.kind = 5
  · simpa [e5] using h5 e5 hd hok.bits hok.at_
  by_cases e6 : a0.kind = 6
  · simpa [e6] using h6 e6 hd hn
  · simpa [e1, e2, e3, e4, e5, e6] using h7 (by omega) hd
end Go.Proofs.Ytmdhpjbahenbhaa.Net
