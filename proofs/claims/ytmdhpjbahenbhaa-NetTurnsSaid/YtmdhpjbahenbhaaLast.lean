/-
  Contract: Last.
-/
import Derived.Test.YtmdhpjbahenbhaaTurn
namespace Go.Proofs.Ytmdhpjbahenbhaa.Net
open Go.RowKit Mem Cells Ops Go.Maps
set_option linter.unusedVariables false
set_option linter.unusedSimpArgs false

theorem OwnF.away_erase {X : Nat → Prop} {w : World} {v : Value} {zs : List (F × Value)} (h : OwnF X w v zs) (k : Nat) (z : F × Value) (hz : zs[k]? = some z) : ∀ y ∈ zs.eraseIdx k, Apart y.2 z.2 := by
  intro y hy
  obtain ⟨i, hi, e⟩ := List.mem_eraseIdx_iff_getElem?.1 hy
  exact h.away i k y z e hz hi
theorem rowF_one (f : F) (d : Value) (h : d.oneCell' = true) : (rowF f d).toArray.all (·.oneCell') = true := by
  have h1 : ∀ k n, (Value.int k n).oneCell' = true := fun _ _ => rfl
  have h2 : ∀ n, (Value.bool n).oneCell' = true := fun _ => rfl
  simp [rowF, h, h1, h2]
/-- The slot is a slice of this one frame. -/
def sliceQ (f : F) (d : Value) : Mono.Prp := ⟨fun v w => ∃ g, v = .slice (some ⟨g, 0, none⟩) 1 1 ∧ At w g 35 (rowF f d).toArray, fun _ _ _ h hb => by obtain ⟨g, h1, h2⟩ := h; exact ⟨g, h1, h2.ext hb⟩⟩
theorem mid_appendQ {X : Nat → Prop} {w0 w : World} {S T : Nat} {row0 : Array Value} {v0 : Value} {zs : List (F × Value)} {f : F} {d : Value} {g : Nat} (ty : TypeId) (hl : OwnF X w0 v0 zs) (hrow : At w0 S T row0) (hT : T ≠ 35) (hb : Below w0.heap.size w0 w)
    (hat : At w g 35 (rowF f d).toArray) (hd : Own8 X w0 d f.bytes) (ha : ∀ z ∈ zs, Apart z.2 d) (hz : zs.length ≤ 99999) :
    ∃ v x, (Builtin.append_ #[44, 44] ty #[v0, .slice (some ⟨g, 0, none⟩) 1 1]).run Try.prog w = .ok v x ∧ Mid X w0 S T row0 v0 zs f v x := by
  have hl' := hl.below hb
  obtain ⟨v, x, hr, ho, hg⟩ := (hl'.mono (Y := more X w0 w) more_self).append ty f d g hat ((hd.below hb).mono more_self) ha hz
  have hr1 := hrow.ext hb
  refine ⟨v, x, hr, grown_trans (grown_below _ hb) hg, ?_, d, ho.mono (more_more hb.size hg.size)⟩
  have hne := own_ne hl'.row hr1 (Ne.symm hT)
  unfold At at hr1 ⊢
  rw [hg.block S (At.lt hr1) (fun e => hne e.symm)]
  exact hr1
set_option maxRecDepth 100000 in
set_option maxHeartbeats 800000 in
theorem LastNil (k : Int) (w : World) : Calls Try.prog 20 #[.pointer none, .int .i64 k] w fun e w' => e = .returned (.int .i64 1) ∧ Below w.heap.size w w' := by
  go_enter Try.func20, Try.ntmps20
  go_wp2_with (first
    | (go_at_call 14; go_must (refine (TakeNil _ _).mono ?_; rintro e w1 ⟨rfl, hb1⟩))
    | ((with_reducible refine wpl_allocAt rfl 35 rfl zero35 (by kernel_rfl) ?_); go_must (intro w2 hat2 hb2 hs2; clear hs2))
    | ((with_reducible refine wpl_storeR rfl 35 (.tmp 5) (.tmp 11) rfl rfl w1.heap.size 35 zero35 zero35 ?_ ?_ hat2 (by kernel_rfl) ?_ ?_ ?_); rfl; rfl; rfl; (simp [zero35, Value.oneCell']); go_must (intro w3 hat3 hg3; have hu3 := hb1.trans (((below_grown hb2 hg3 hb2.size (Nat.le_refl _))).mono hb1.size))))
  go_ret
  exact ⟨rfl, hu3⟩
set_option maxRecDepth 100000 in
set_option maxHeartbeats 800000 in
theorem LastNone {X : Nat → Prop} {w : World} {S : Nat} {hosts : Int} {fs : List F} {cut : Int → Int → Int → Bool} {n : Nat} (h : Net X w S hosts fs cut n) (k : Int) (hk : inB fs.length k = false) :
    Calls Try.prog 20 #[.pointer (some ⟨S, 0, none⟩), .int .i64 k] w fun e w' => e = .returned (.int .i64 8) ∧ Below w.heap.size w w' := by
  have PT := Lib.hid (TakeNone h k hk)
  clear h hk
  go_enter Try.func20, Try.ntmps20
  go_wp2_with (first
    | (go_at_call 14; go_must (refine PT.out.mono ?_; rintro e w1 ⟨rfl, hb1⟩))
    | ((with_reducible refine wpl_allocAt rfl 35 rfl zero35 (by kernel_rfl) ?_); go_must (intro w2 hat2 hb2 hs2; clear hs2))
    | ((with_reducible refine wpl_storeR rfl 35 (.tmp 5) (.tmp 11) rfl rfl w1.heap.size 35 zero35 zero35 ?_ ?_ hat2 (by kernel_rfl) ?_ ?_ ?_); rfl; rfl; rfl; (simp [zero35, Value.oneCell']); go_must (intro w3 hat3 hg3; have hu3 := hb1.trans (((below_grown hb2 hg3 hb2.size (Nat.le_refl _))).mono hb1.size))))
  go_ret
  exact ⟨rfl, hu3⟩
theorem run_frameAt {w : World} {g : Nat} {f : F} {d : Value} (h : At w g 35 (rowF f d).toArray) : (Instr.loadAt 35 (.pointer (some ⟨g, 0, none⟩))).run Try.prog w = .ok (.agg (rowF f d).toArray) w := run_frame (range_at h)
set_option maxRecDepth 100000 in
set_option maxHeartbeats 1600000 in
theorem LastOk {X : Nat → Prop} {w : World} {S : Nat} {hosts : Int} {fs : List F} {cut : Int → Int → Int → Bool} {n : Nat} (h : Net X w S hosts fs cut n) (k : Nat) (f : F) (hf : fs[k]? = some f) :
    Calls Try.prog 20 #[.pointer (some ⟨S, 0, none⟩), .int .i64 k] w fun e w' => e = .returned (.int .i64 0) ∧ Net (more X w w') w' S hosts (fs.eraseIdx k ++ [f]) cut n ∧ ButX X w w' := by
  obtain ⟨zs, p, m, c, b, D, h⟩ := h
  have hk : k < fs.length := (List.getElem?_eq_some_iff.1 hf).1
  have hm1 := h.ok.1
  rw [h.flen] at hk hm1
  obtain ⟨⟨f', d⟩, hz1, hz2⟩ := h.get k hk
  obtain rfl : f' = f := by rw [hz2] at hf; exact Option.some.inj hf
  have HFO := Lib.hid (h.ok.2 f' (List.mem_of_getElem? hz2))
  have HAP := Lib.hid (h.list.away_erase k _ hz1)
  have PT := Lib.hid (TakeZ h k hk _ hz1)
  have HZ : (zs.eraseIdx k).length ≤ 99999 := by have := h.len; rw [List.length_eraseIdx]; split <;> omega
  have HNO := Lib.hid (show m - 1 < 1024 by omega)
  obtain ⟨pd, cd, rfl, _⟩ : ∃ pd cd, d = .slice pd f'.bytes.length cd ∧ True := by obtain ⟨pd, cd, e, _⟩ := (h.list.bytes _ (List.mem_of_getElem? hz1)).1.reads; exact ⟨pd, cd, e, trivial⟩
  obtain ⟨d, hd⟩ : ∃ d, Value.slice pd f'.bytes.length cd = d := ⟨_, rfl⟩
  have h1 : d.oneCell' = true := by rw [← hd]; rfl
  have hm0 : m - 1 ≤ 1023 := by omega
  obtain ⟨m1, hm1'⟩ : ∃ m1, m - 1 = m1 := ⟨_, rfl⟩
  rw [hm1'] at PT HNO hm0
  simp only at PT HAP
  rw [hd] at PT HAP
  clear h hz1 hz2 hf hk hm1 hm1' hd
  go_enter Try.func20, Try.ntmps20
  go_upto_region 3 with (first
    | (go_at_call 14; go_must (refine PT.out.mono ?_; rintro e w1 ⟨rfl, ⟨p1, c1, hH1⟩, h81, hX1⟩; have HH1 := Lib.hid (And.intro hH1 (And.intro h81 hX1)); clear hH1 h81 hX1))
    | ((with_reducible refine wpl_allocAt rfl 35 rfl zero35 (by kernel_rfl) ?_); go_must (intro w2 hat2 hb2 hs2; clear hs2))
    | ((with_reducible refine wpl_storeR rfl 35 (.tmp 5) (.tmp 11) rfl rfl w1.heap.size 35 zero35 (rowF f' d).toArray ?_ ?_ hat2 (by kernel_rfl) ?_ ?_ ?_); rfl; rfl; rfl; (exact rowF_one f' d h1); go_must (intro w3 hat3 hg3; have hu3 := ((below_grown hb2 hg3 hb2.size (Nat.le_refl _))))))
  have H := Lib.hid (HH1.out.1.below hu3)
  have HO := Lib.hid H.out.list
  have HD := Lib.hid (HH1.out.2.1.below hu3)
  have hS : At w3 S 61 #[.int .i64 hosts, .slice p1 m1 c1, .map (some b)] := H.out.row
  have lS := hS.lt
  have q1 := hS.cell 1
  simp at q1
  obtain ⟨w0, rfl⟩ : ∃ w0, w0 = w3 := ⟨_, rfl⟩
  refine MonoA.wp_region_A [0] 7 22 [some 15, some 16, some 17, some 18, some 19, some 20, some 21, some 22, some 23, some 24, none] [.val (.pointer (some ⟨S, 0, none⟩)), .val (.pointer (some ⟨S, 0, none⟩)), .val (.pointer (some ⟨S, 0, none⟩)), .val (.pointer (some ⟨S, 1, none⟩)), .val (.slice p1 m1 c1), .val (.agg (rowF f' d).toArray), .prp (sliceQ f' d), .prp (Mono.anyV), .val (.pointer (some ⟨S, 0, none⟩)), .val (.pointer (some ⟨S, 1, none⟩)), .prp (Mono.anyV)] (Mid X w0 S 61 #[.int .i64 hosts, .slice p1 m1 c1, .map (some b)] (.slice p1 m1 c1) (zs.eraseIdx k) f') (Fin X w0 S 61 #[.int .i64 hosts, .slice p1 m1 c1, .map (some b)] (.slice p1 m1 c1) (zs.eraseIdx k) f') (by kernel_rfl) (by kernel_rfl) (by kernel_rfl) (of_decide_eq_true (by kernel_rfl)) rfl rfl rfl rfl (by kernel_rfl) (by kernel_rfl) _ _ rfl rfl ?_ ?_ ?_ ?_ ?_
  · simp only [MonoA.HeadGoals, List.take_succ_cons, List.take_zero, and_true]
    refine ⟨?_, ?_, ?_, ?_, ?_, ?_, ?_⟩
    · rw [if_pos (by decide)]
      intro a u hsu hdu
      have z0 : a.eval (.tmp 0) = _ := hsu 0 (by decide)
      simp [Act.eval] at z0
      exact ⟨_, rfl, MonoA.float_val (by simp [execOp, z0, go_sem])⟩
    · rw [if_neg (by decide)]
      intro a u hbu hsu hdu
      have q1 := (hbu.cell (p := ⟨S, 1, none⟩) lS).trans q1
      exact Mono.ok_move (.tmp 0) rfl (hsu 0 (by decide))
    · rw [if_neg (by decide)]
      intro a u hbu hsu hdu
      have q1 := (hbu.cell (p := ⟨S, 1, none⟩) lS).trans q1
      have z16 : a.eval (.tmp 16) = .pointer (some ⟨S, 0, none⟩) := Mono.dep_at hdu (i := 1) (d := 16) rfl rfl rfl
      simp [Act.eval] at z16
      exact Mono.ok_val (.pointer (some ⟨S, 0, none⟩)) (by simp [execOp, z16, go_sem, q1]) rfl
    · rw [if_neg (by decide)]
      intro a u hbu hsu hdu
      have q1 := (hbu.cell (p := ⟨S, 1, none⟩) lS).trans q1
      have z17 : a.eval (.tmp 17) = .pointer (some ⟨S, 0, none⟩) := Mono.dep_at hdu (i := 2) (d := 17) rfl rfl rfl
      simp [Act.eval] at z17
      exact Mono.ok_val (.pointer (some ⟨S, 1, none⟩)) (by simp [execOp, z17, go_sem, q1]) rfl
    · rw [if_neg (by decide)]
      intro a u hbu hsu hdu
      have q1 := (hbu.cell (p := ⟨S, 1, none⟩) lS).trans q1
      have z18 : a.eval (.tmp 18) = .pointer (some ⟨S, 1, none⟩) := Mono.dep_at hdu (i := 3) (d := 18) rfl rfl rfl
      simp [Act.eval] at z18
      exact Mono.ok_val (.slice p1 m1 c1) (by simp [execOp, z18, go_sem, q1]) rfl
    · rw [if_neg (by decide)]
      intro a u hbu hsu hdu
      have q1 := (hbu.cell (p := ⟨S, 1, none⟩) lS).trans q1
      exact Mono.ok_load 35 (.tmp 5) rfl _ _ (hsu 5 (by decide)) (run_frameAt (hat3.ext hbu)) rfl
    · rw [if_neg (by decide)]
      intro a u hbu hsu hdu
      have q1 := (hbu.cell (p := ⟨S, 1, none⟩) lS).trans q1
      have e1 : a.eval (.tmp 20) = .agg (rowF f' d).toArray := Mono.dep_at hdu (i := 5) (d := 20) rfl rfl rfl
      have hbz := (Below.refl u.heap.size u).alloc (Nat.le_refl _) (.cells (rowF f' d).toArray 35)
      exact Mem.wp_build 44 1 (.tmp 20) rfl _ _ _ e1 (buildF f' d u) ⟨_, rfl, hbz, _, rfl, At.new u 35 _⟩
  · intro a u hbu hsu hdu
    have q1 := (hbu.cell (p := ⟨S, 1, none⟩) lS).trans q1
    have z19 : a.eval (.tmp 19) = .slice p1 m1 c1 := Mono.dep_at hdu (i := 4) (d := 19) rfl rfl rfl
    obtain ⟨g0, e0, hat0⟩ : (sliceQ f' d).R (a.eval (.tmp 21)) u := Mono.dep_at hdu (i := 6) (d := 21) rfl rfl rfl
    obtain ⟨v0, x0, hrun0, hm0⟩ := mid_appendQ _ HO.out hS (by decide) hbu hat0 HD.out HAP.out HZ
    exact wp_appendV 44 (.tmp 19) (.tmp 21) rfl _ _ _ _ z19 e0 hrun0 ⟨_, rfl, hm0⟩
  · simp only [MonoA.FloatGoals, List.drop_succ_cons, List.drop_zero, List.dropLast_cons_cons, List.dropLast_singleton, and_true]
    refine ⟨?_, ?_⟩
    · intro a u hsu hdu
      have z15 : a.eval (.tmp 15) = .pointer (some ⟨S, 0, none⟩) := Mono.dep_at hdu (i := 0) (d := 15) rfl rfl rfl
      simp [Act.eval] at z15
      exact ⟨_, rfl, MonoA.float_val (by simp [execOp, z15, go_sem])⟩
    · intro a u hsu hdu
      have z23 : a.eval (.tmp 23) = .pointer (some ⟨S, 0, none⟩) := Mono.dep_at hdu (i := 8) (d := 23) rfl rfl rfl
      simp [Act.eval] at z23
      exact ⟨_, rfl, MonoA.float_val (by simp [execOp, z23, go_sem])⟩
  · intro a u v hmid hv hsu hdu
    have zp : a.eval (.tmp 24) = .pointer (some ⟨S, 1, none⟩) := Mono.dep_at hdu (i := 9) (d := 24) rfl rfl rfl
    exact wp_storeC 44 (.tmp 24) (.tmp 22) rfl rfl S 1 61 _ _ v zp hv hmid.row (by show (1 : Nat) < 3; decide) (by kernel_rfl) hmid.one rfl (fun y hat hg => ⟨undef, rfl, fin_store hmid hg hat⟩)
  intro v x hfin us
  obtain ⟨hn, hbx⟩ := Fin.net H.out hfin HNO.out HFO.out
  clear hfin
  simp [Act.put, MonoU.pick]
  go_wp2_with fail
  go_ret
  have hX1 := HH1.out.2.2
  have hb3 := hX1.trans (((ButX.ofBelow (X := X) hu3)).mono more_self)
  exact ⟨rfl, hn.mono (more_since hb3.size), hb3.trans (hbx.mono more_self)⟩
theorem lastE {X : Nat → Prop} {w : World} {S : Nat} {hosts : Int} {fs : List F} {cut : Int → Int → Int → Bool} {n : Nat} (h : Net X w S hosts fs cut n) (k : Int) :
    Calls Try.prog 20 #[.pointer (some ⟨S, 0, none⟩), .int .i64 k] w fun e w' => e = .returned (.int .i64 (takeE fs k)) ∧ Net (more X w w') w' S hosts (lastL fs k) cut n ∧ ButX X w w' := by
  unfold takeE lastL takeF
  cases hk : inB fs.length k with
  | false => exact (LastNone h k hk).mono fun e w' ⟨e1, e2⟩ => ⟨e1, (h.below e2).mono more_self, ButX.ofBelow e2⟩
  | true =>
    have hk' : 0 ≤ k ∧ k < fs.length := by simpa [inB] using hk
    obtain ⟨j, rfl⟩ : ∃ j : Nat, k = j := ⟨k.toNat, by omega⟩
    have hj : j < fs.length := by omega
    have hf : fs[j]? = some (fs.getD ((j : Int).toNat) zeroF) := by
      rw [show ((j : Nat) : Int).toNat = j from by omega, List.getD_eq_getElem?_getD, List.getElem?_eq_getElem hj]
      rfl
    rw [show ((j : Nat) : Int).toNat = j from by omega] at hf ⊢
    exact LastOk h j _ hf
end Go.Proofs.Ytmdhpjbahenbhaa.Net
