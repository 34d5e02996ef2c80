/-
  Contracts: a call of both nets (act): Take, and what is no call.
-/
import Derived.Test.YtmdhpjbahenbhaaAct1
namespace Go.Proofs.Ytmdhpjbahenbhaa.Net
open Go.RowKit Mem Cells Ops Go.Maps
set_option linter.unusedVariables false
set_option linter.unusedSimpArgs false

theorem row_oth {k : IntKind} {e B : Nat} {w w' : World} {v : Value} {xs : List Int} {Y : Nat → Prop} (h : Row k e B w v xs) (hb : ButX Y w w') (hy : ∀ g, v.ownBlock = some g → ¬ Y g) : Row k e B w' v xs := by
  have ho : w.ownsRow B e 1 v xs.length _ := h
  refine ⟨ho.1, ?_⟩
  rcases ho.2 with hn | ⟨g, cap, cur, rfl, hB, hgg, r⟩
  · exact .inl hn
  · exact .inr ⟨g, cap, cur, rfl, hB, by rw [hb.block g (Array.getElem?_eq_some_iff.1 hgg).1 (hy g rfl)]; exact hgg, r⟩
section
variable {Z : Nat → Prop} {w w' : World} {S R : Nat} {hosts : Int} {fs gs fs' gs' : List F} {cut cut' ct : Int → Int → Int → Bool} {n n' : Nat} {X Y : Nat → Prop}
theorem Pair.left' (h : Pair Z w S R hosts fs gs cut cut' n X Y) (hn : Net X w' S hosts fs' ct n') (hb : ButX X w w') : Pair Z w' S R hosts fs' gs ct cut' n' X Y :=
  ⟨hn, h.ref.others hb (fun k hy hx => h.apart k hx hy), h.apart, fun k hk => ⟨(h.x k hk).1, Nat.lt_of_lt_of_le (h.x k hk).2 hb.size⟩, fun k hk => ⟨(h.y k hk).1, Nat.lt_of_lt_of_le (h.y k hk).2 hb.size⟩, fun k hk => Nat.lt_of_lt_of_le (h.z k hk) hb.size⟩
theorem Pair.below (h : Pair Z w S R hosts fs gs cut cut' n X Y) (hb : Below w.heap.size w w') : Pair Z w' S R hosts fs gs cut cut' n X Y :=
  ⟨h.net.below hb, h.ref.below hb, h.apart, fun k hk => ⟨(h.x k hk).1, Nat.lt_of_lt_of_le (h.x k hk).2 hb.size⟩, fun k hk => ⟨(h.y k hk).1, Nat.lt_of_lt_of_le (h.y k hk).2 hb.size⟩, fun k hk => Nat.lt_of_lt_of_le (h.z k hk) hb.size⟩
end
set_option maxRecDepth 100000 in
theorem actElse {Z : Nat → Prop} {w : World} {S R : Nat} {hosts : Int} {fs : List F} {cut : Int → Int → Int → Bool} {n : Nat} (h : Two Z w S R hosts fs fs cut cut n) (a0 : A) (d : Value) (hk : ¬ (1 ≤ a0.kind ∧ a0.kind ≤ 6)) (hd : d.oneCell' = true) :
    Calls Try.prog 16 #[.pointer (some ⟨S, 0, none⟩), .pointer (some ⟨R, 0, none⟩), .agg (rowA a0 d)] w (ActPost Z S R hosts fs cut n w) := by
  have H := Lib.hid h
  obtain ⟨x, hx⟩ : ∃ x, a0.kind = x := ⟨_, rfl⟩
  rw [hx] at hk
  have e1 : (x == 1) = false := by simp; omega
  have e2 : (x == 2) = false := by simp; omega
  have e3 : (x == 3) = false := by simp; omega
  have e4 : (x == 4) = false := by simp; omega
  have e5 : (x == 5) = false := by simp; omega
  have e6 : (x == 6) = false := by simp; omega
  have HX := Lib.hid hx
  clear h hk hx
  go_enter Try.func16, Try.ntmps16
  go_wp2_with (first
    | ((with_reducible refine wpl_boxAt rfl 52 (.tmp 2) rfl (rowA a0 d) ?_ ?_); rfl; go_must (intro w1 hat1 hb1 hs1; have HB := Lib.hid hb1; have hc0 := hat1.cell 0; simp [rowA] at hc0; rw [HX.out] at hc0; clear hs1 hb1)))
  go_ret
  exact ⟨rfl, H.out.below HB.out, ButX.ofBelow HB.out⟩
set_option maxRecDepth 100000 in
set_option maxHeartbeats 1600000 in
theorem act2None {Z : Nat → Prop} {w : World} {S R : Nat} {hosts : Int} {fs : List F} {cut : Int → Int → Int → Bool} {n : Nat} (h : Two Z w S R hosts fs fs cut cut n) (a0 : A) (d : Value) (hk : a0.kind = 2) (hd : d.oneCell' = true) (hin : inB fs.length a0.k = false) :
    Calls Try.prog 16 #[.pointer (some ⟨S, 0, none⟩), .pointer (some ⟨R, 0, none⟩), .agg (rowA a0 d)] w (ActPost Z S R hosts fs cut n w) := by
  have HK := Lib.hid hk
  obtain ⟨X, Y, hp⟩ := h
  have PN := Lib.hid (fun u (hu : Below w.heap.size w u) => TakeNone (hp.net.below hu) a0.k hin)
  have PR := Lib.hid (fun u (hu : Below w.heap.size w u) => rTakeNone (hp.ref.below hu) a0.k hin)
  have PS := Lib.hid (fun u => sameSelf zeroF (.slice none 0 0) (.slice none 0 0) u Reads.sub0 Reads.sub0)
  have HP := Lib.hid hp
  have hzz : (rowF zeroF (.slice none 0 0)).toArray = zero35 := rfl
  rw [hzz] at PS
  obtain ⟨z35, hz35⟩ : ∃ z, zero35 = z := ⟨_, rfl⟩
  have hz1 : z35.all (·.oneCell') = true := by rw [← hz35]; simp [zero35, Value.oneCell']
  have hz6 : z35.size = 6 := by rw [← hz35]; rfl
  have HZ := Lib.hid hz35
  have HZ1 := Lib.hid hz1
  have HZ6 := Lib.hid hz6
  rw [hz35] at PN PR PS
  clear hk hin hp hzz hz35 hz1 hz6
  go_enter Try.func16, Try.ntmps16
  go_wp2_with (first
    | ((with_reducible refine wpl_boxAt rfl 52 (.tmp 2) rfl (rowA a0 d) ?_ ?_); rfl; go_must (intro w1 hat1 hb1 hs1; have hc0 := hat1.cell 0; have hc1 := hat1.cell 1; simp [rowA] at hc0 hc1; rw [HK.out] at hc0; have lt1 := hat1.lt; clear hs1))
    | (go_at_call 14; go_must (refine (PN.out _ hb1).mono ?_; rintro e w2 ⟨rfl, hb2⟩; have hu2 := hb1.trans (hb2.mono hb1.size); have hd1 := (hb2.cell (p := ⟨w.heap.size, 1, none⟩) lt1).trans hc1; have lt2 := Nat.lt_of_lt_of_le lt1 hb2.size; clear hc0 hc1 hb2))
    | (have _t := hd1; clear _t; (with_reducible refine wpl_allocAt rfl 35 rfl zero35 (by kernel_rfl) ?_); go_must (intro w3 hat3 hb3 hs3; clear hs3))
    | ((with_reducible refine wpl_storeR rfl 35 (.tmp 7) (.tmp 41) rfl rfl w2.heap.size 35 zero35 z35 ?_ ?_ hat3 ?_ ?_ ?_ ?_); rfl; rfl; (rw [HZ6.out]; kernel_rfl); (rw [HZ6.out]; rfl); exact HZ1.out; go_must (intro w4 hat4 hg4; have hb4 := below_grown hb3 hg4 hb3.size (Nat.le_refl _); have hu4 := hu2.trans (hb4.mono hu2.size); have hf1 := (hb4.cell (p := ⟨w.heap.size, 1, none⟩) lt2).trans hd1; clear hd1 hat3 hg4 hb3 hb4))
    | (go_at_call 27; go_must (refine (PR.out _ hu4).mono ?_; rintro e w5 ⟨rfl, hb5⟩; have hu5 := hu4.trans (hb5.mono hu4.size); have hat5 := hat4.ext hb5; clear hf1 hb5 hat4))
    | ((with_reducible refine wpl_allocAt rfl 35 rfl zero35 (by kernel_rfl) ?_); go_must (intro w6 hat6 hb6 hs6; clear hs6))
    | ((with_reducible refine wpl_storeR rfl 35 (.tmp 9) (.tmp 48) rfl rfl w5.heap.size 35 zero35 z35 ?_ ?_ hat6 ?_ ?_ ?_ ?_); rfl; rfl; (rw [HZ6.out]; kernel_rfl); (rw [HZ6.out]; rfl); exact HZ1.out; go_must (intro w7 hat7 hg7; have hb7 := below_grown hb6 hg7 hb6.size (Nat.le_refl _); have hu7 := hu5.trans (hb7.mono hu5.size); have hat57 := hat5.ext hb7; clear hat6 hg7 hb6 hb7 hat5))
    | ((with_reducible refine wpl_loadAt rfl 35 (.tmp 7) rfl w2.heap.size 35 z35 hat57 _ Try.underlying35 rfl ?_ ?_ ?_); (rw [HZ6.out]; kernel_rfl); rfl)
    | ((with_reducible refine wpl_loadAt rfl 35 (.tmp 9) rfl w5.heap.size 35 z35 hat7 _ Try.underlying35 rfl ?_ ?_ ?_); (rw [HZ6.out]; kernel_rfl); rfl)
    | (go_at_call 28; go_must (refine (PS.out _).mono ?_; rintro e w8 ⟨rfl, hb8⟩; have hu8 := hu7.trans (hb8.mono hu7.size))))
  go_ret
  exact ⟨rfl, Two.below ⟨X, Y, HP.out⟩ hu8, ButX.ofBelow hu8⟩
set_option maxRecDepth 100000 in
set_option maxHeartbeats 3200000 in
theorem act2Ok {Z : Nat → Prop} {w : World} {S R : Nat} {hosts : Int} {fs : List F} {cut : Int → Int → Int → Bool} {n : Nat} (h : Two Z w S R hosts fs fs cut cut n) (a0 : A) (d : Value) (hk : a0.kind = 2) (hd : d.oneCell' = true) (k : Nat) (hak : a0.k = k) (hlt : k < fs.length) :
    Calls Try.prog 16 #[.pointer (some ⟨S, 0, none⟩), .pointer (some ⟨R, 0, none⟩), .agg (rowA a0 d)] w (ActPost Z S R hosts (fs.eraseIdx k) cut n w) := by
  have HK := Lib.hid (And.intro hk hak)
  obtain ⟨X, Y, hp⟩ := h
  have HP := Lib.hid hp
  obtain ⟨zs, p, m, c, b, D, h0⟩ := hp.net
  obtain ⟨zr, pr, mr, cr, ds, r0⟩ := hp.ref
  have hm : k < m := by have := h0.flen; omega
  have hmr : k < mr := by have := r0.flen; omega
  obtain ⟨⟨f, dn⟩, hz1, hz2⟩ := h0.get k hm
  obtain ⟨⟨f', dr⟩, hz3, hz4⟩ := r0.get k hmr
  obtain rfl : f = f' := by rw [hz2] at hz4; exact Option.some.inj hz4
  have hon : dn.oneCell' = true := (h0.list.bytes _ (List.mem_of_getElem? hz1)).one
  have hor : dr.oneCell' = true := (r0.list.bytes _ (List.mem_of_getElem? hz3)).one
  have PN := Lib.hid (fun u (hu : Below w.heap.size w u) => TakeZ (h0.below hu) k hm _ hz1)
  have PR := Lib.hid (fun u (hr : RHas Y u R hosts fs cut zr pr mr cr ds) => rTakeZ hr k hmr _ hz3)
  have HR0 := Lib.hid r0
  have HON := Lib.hid hon
  have HOR := Lib.hid hor
  clear hk hak hlt h0 r0 hm hmr hz1 hz2 hz3 hz4 hon hor hp
  simp only at PN PR
  go_enter Try.func16, Try.ntmps16
  go_upto_region 6 with (first
    | ((with_reducible refine wpl_boxAt rfl 52 (.tmp 2) rfl (rowA a0 d) ?_ ?_); rfl; go_must (intro w1 hat1 hb1 hs1; have hc0 := hat1.cell 0; have hc1 := hat1.cell 1; simp [rowA] at hc0 hc1; rw [HK.out.1] at hc0; rw [HK.out.2] at hc1; have lt1 := hat1.lt; clear hs1))
    | (go_at_call 14; go_must (refine (PN.out _ hb1).mono ?_; rintro e w2 ⟨rfl, ⟨p2, c2, hh2⟩, h82, hX2⟩; have HH2 := Lib.hid (And.intro hh2 (And.intro h82 hX2)); clear hh2 h82 hX2 hc0 hc1))
    | ((with_reducible refine wpl_allocAt rfl 35 rfl zero35 (by kernel_rfl) ?_); go_must (intro w3 hat3 hb3 hs3; clear hs3))
    | ((with_reducible refine wpl_storeR rfl 35 (.tmp 7) (.tmp 41) rfl rfl w2.heap.size 35 zero35 (rowF f dn).toArray ?_ ?_ hat3 (by kernel_rfl) ?_ ?_ ?_); rfl; rfl; rfl; (exact rowF_one f dn HON.out); go_must (intro w4 hat4 hg4; have hb4 := below_grown hb3 hg4 hb3.size (Nat.le_refl _); have HB4 := Lib.hid hb4; clear hat3 hg4 hb3 hb4)))
  obtain ⟨hh2, h82, hX2⟩ := HH2.out
  have hp1 := HP.out.below hb1
  have hpz : Pair (more Z w w1) w1 S R hosts fs fs cut cut n X Y := ⟨hp1.net, hp1.ref, hp1.apart, fun k hk => ⟨fun e => e.elim (hp1.x k hk).1 (fun e => by have := (HP.out.x k hk).2; omega), (hp1.x k hk).2⟩, fun k hk => ⟨fun e => e.elim (hp1.y k hk).1 (fun e => by have := (HP.out.y k hk).2; omega), (hp1.y k hk).2⟩, fun k hk => hk.elim (hp1.z k) (fun e => e.2)⟩
  have hp2 := hpz.left' ⟨_, _, _, _, _, _, hh2⟩ hX2
  have hp4 := hp2.below HB4.out
  have hz : more Z w w1 w.heap.size := .inr ⟨Nat.le_refl _, lt1⟩
  have hB2 : ButX (fun k => ¬ more Z w w1 k) w1 w4 := But.trans (hX2.mono fun k hk => (hpz.x k hk).1) (ButX.ofBelow HB4.out)
  have hf1 : w4.cell? ⟨w.heap.size, 1, none⟩ = some (.int .i64 k) := by
    rw [But.cell hB2 hz lt1, hat1.cell 1, ← HK.out.2]
    rfl
  have hr4 := ((HR0.out.below hb1).others hX2 (fun q hy hx => hpz.apart q hx hy)).below HB4.out
  have h84 := h82.below HB4.out
  have ltY : ∀ q, Y q → q < w2.heap.size := fun q hq => (hp2.y q hq).2
  have H4 := Lib.hid (And.intro hp4 (And.intro hB2 (And.intro h84 (And.intro ltY hb1))))
  have HR4 := Lib.hid hr4
  have HAT4 := Lib.hid hat4
  clear HH2 hh2 h82 hX2 hp1 hpz hp2 hp4 hB2 h84 ltY hr4 hz hat1 hat4 HB4 hb1 lt1
  go_wp2_with (first
    | (go_at_call 27; go_must (refine (PR.out _ HR4.out).mono ?_; rintro e w5 ⟨rfl, ⟨p5, c5, ds5, hh5⟩, h85, hX5⟩; have HH5 := Lib.hid (And.intro hh5 (And.intro h85 hX5)); have hat5 : At w5 w2.heap.size 35 (rowF f dn).toArray := At.others HAT4.out hX5 (fun hy => Nat.lt_irrefl _ (H4.out.2.2.2.1 _ hy)); clear hh5 h85 hX5 hf1))
    | ((with_reducible refine wpl_allocAt rfl 35 rfl zero35 (by kernel_rfl) ?_); go_must (intro w6 hat6 hb6 hs6; clear hs6))
    | ((with_reducible refine wpl_storeR rfl 35 (.tmp 9) (.tmp 48) rfl rfl w5.heap.size 35 zero35 (rowF f dr).toArray ?_ ?_ hat6 (by kernel_rfl) ?_ ?_ ?_); rfl; rfl; rfl; (exact rowF_one f dr HOR.out); go_must (intro w7 hat7 hg7; have hb7 := below_grown hb6 hg7 hb6.size (Nat.le_refl _); have hat57 := hat5.ext hb7; have PS := Lib.hid (sameSelf f dn dr w7 ((row_oth H4.out.2.2.1.1 HH5.out.2.2 (fun q hq => H4.out.1.apart q (H4.out.2.2.1.2 q hq))).below hb7).reads (HH5.out.2.1.below hb7).1.reads); have HB7 := Lib.hid hb7; clear hat6 hg7 hb6 hb7 hat5))
    | ((with_reducible refine wpl_loadAt rfl 35 (.tmp 7) rfl w2.heap.size 35 (rowF f dn).toArray hat57 _ Try.underlying35 rfl (by kernel_rfl) ?_ ?_); rfl)
    | ((with_reducible refine wpl_loadAt rfl 35 (.tmp 9) rfl w5.heap.size 35 (rowF f dr).toArray hat7 _ Try.underlying35 rfl (by kernel_rfl) ?_ ?_); rfl)
    | (go_at_call 28; go_must (refine PS.out.mono ?_; rintro e w8 ⟨rfl, hb8⟩)))
  go_ret
  obtain ⟨hp4, hB2, h84, ltY, hb1⟩ := H4.out
  obtain ⟨hh5, h85, hX5⟩ := HH5.out
  obtain ⟨t5, b5⟩ := hp4.right ⟨_, _, _, _, _, hh5⟩ hX5
  have hb58 : Below w5.heap.size w5 w8 := HB7.out.trans (hb8.mono HB7.out.size)
  refine ⟨rfl, (t5.below hb58).less (fun k hk => .inl hk), ?_⟩
  have hB8 := But.trans (But.trans hB2 b5) (ButX.ofBelow (X := fun k => ¬ more Z w w1 k) hb58)
  exact (ButX.ofBelow hb1).trans ((But.less hB8 (fun k hk => .inl hk)).mono more_self)
theorem act2 {Z : Nat → Prop} {w : World} {S R : Nat} {hosts : Int} {fs : List F} {cut : Int → Int → Int → Bool} {n : Nat} (h : Two Z w S R hosts fs fs cut cut n) (a0 : A) (d : Value) (hk : a0.kind = 2) (hd : d.oneCell' = true) :
    Calls Try.prog 16 #[.pointer (some ⟨S, 0, none⟩), .pointer (some ⟨R, 0, none⟩), .agg (rowA a0 d)] w (ActPost Z S R hosts (takeL fs a0.k) cut n w) := by
  unfold takeL
  cases hin : inB fs.length a0.k with
  | false => exact act2None h a0 d hk hd hin
  | true =>
    have hk' : 0 ≤ a0.k ∧ a0.k < fs.length := by simpa [inB] using hin
    rw [if_pos rfl]
    exact act2Ok h a0 d hk hd a0.k.toNat (by omega) (by omega)
end Go.Proofs.Ytmdhpjbahenbhaa.Net
