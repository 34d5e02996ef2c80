/-
  Contracts: the closures of age and find; slices.IndexFunc with each.
-/
import Derived.Test.YtmbhiajhlfjknaaDup0
namespace Go.Proofs.Ytmbhiajhlfjknaa.Dup
open Go.RowKit Mem Cells Ops
set_option linter.unusedVariables false
set_option linter.unusedSimpArgs false

/-- Is it too old? -/
def oldB (now window : Int) (k : K) : Bool := decide (k.at_ < now ∧ window < now - k.at_)
/-- Is it this one's? -/
def hitB (host : ByteArray) (fin : Int) (k : K) : Bool := decide (k.host.toList = host.toList) && k.fin == fin
set_option maxRecDepth 100000 in
set_option maxHeartbeats 800000 in
theorem isOld (k : K) (d : Value) (now window most last : Int) (v : Value) (gn gs S : Nat) (w : World) (hok : k.ok) (hnow : i64 now) (hwin : 0 ≤ window ∧ window ≤ 1048576) (hd : d.oneCell' = true)
    (hn : At w gn 3 #[.int .i64 now]) (hs : At w gs 25 #[.pointer (some ⟨S, 0, none⟩)]) (hS : At w S 39 #[.int .i64 window, .int .i64 most, v, .int .i64 last]) :
    Calls Try.prog 15 #[.agg (rowK k d).toArray, .pointer (some ⟨gn, 0, none⟩), .pointer (some ⟨gs, 0, none⟩)] w fun e w' => e = .returned (.bool (oldB now window k)) ∧ Below w.heap.size w w' := by
  obtain ⟨_, ⟨a1, a2⟩, _⟩ := hok
  obtain ⟨n1, n2⟩ := hnow
  by_cases h1 : k.at_ < now
  · have e1 : oldB now window k = decide (window < now - k.at_) := by unfold oldB; simp [h1]
    rw [e1]
    have w1 : IntKind.u64.wrap now = now := by rw [IntKind.wrap_u64]; omega
    have w2 : IntKind.u64.wrap k.at_ = k.at_ := by rw [IntKind.wrap_u64]; omega
    have w3 : IntKind.u64.wrap window = window := by rw [IntKind.wrap_u64]; omega
    have w4 : IntKind.u64.wrap (now - k.at_) = now - k.at_ := by rw [IntKind.wrap_u64]; omega
    have b1 : decide (k.at_ < now) = true := decide_eq_true h1
    clear e1
    go_enter Try.func15, Try.ntmps15
    go_wp2_with ((with_reducible refine wpl_boxAt rfl 46 (.tmp 0) rfl (rowK k d).toArray ?_ ?_); rfl; go_must (intro w5 hatk hb hs5; clear hs5))
    have cn := (hn.ext hb).cell 0
    have cs := (hs.ext hb).cell 0
    have c0 := (hS.ext hb).cell 0
    have ck := hatk.cell 2
    simp [rowK] at cn cs c0 ck
    have ln := (hn.ext hb).lt
    have ls := (hs.ext hb).lt
    have lS := (hS.ext hb).lt
    have lk := hatk.lt
    have hb0 := hb
    refine Mono.wp_region_mono [some 5, some 6, some 7, some 8, some 9, some 10, some 11, some 12, some 13, some 14, some 15, some 16, some 17, some 18, some 19, some 20, some 21, some 22, some 4] [Mono.isV (.int .i64 now), Mono.isV (.pointer (some ⟨w.heap.size, 2, none⟩)), Mono.isV (.int .i64 k.at_), Mono.isV (.bool true), Mono.isV (.bool true), Mono.isV (.int .i64 now), Mono.isV (.int .u64 now), Mono.isV (.pointer (some ⟨w.heap.size, 2, none⟩)), Mono.isV (.int .i64 k.at_), Mono.isV (.int .u64 k.at_), Mono.isV (.int .u64 (now - k.at_)), Mono.isV (.pointer (some ⟨S, 0, none⟩)), Mono.isV (.pointer (some ⟨S, 0, none⟩)), Mono.isV (.pointer (some ⟨S, 0, none⟩)), Mono.isV (.int .i64 window), Mono.isV (.int .u64 window), Mono.isV (.bool (decide (window < now - k.at_))), Mono.isV (.bool (decide (window < now - k.at_))), Mono.isV (.bool (decide (window < now - k.at_)))] (by kernel_rfl) (by kernel_rfl) ?_ ?_
    · simp only [Mono.OpGoals, and_true]
      refine ⟨?_, ?_, ?_, ?_, ?_, ?_, ?_, ?_, ?_, ?_, ?_, ?_, ?_, ?_, ?_, ?_, ?_, ?_, ?_⟩
      · intro a u hbu hsu hdu
        have cn := (hbu.cell (p := ⟨gn, 0, none⟩) ln).trans cn; have cs := (hbu.cell (p := ⟨gs, 0, none⟩) ls).trans cs; have c0 := (hbu.cell (p := ⟨S, 0, none⟩) lS).trans c0; have ck := (hbu.cell (p := ⟨w.heap.size, 2, none⟩) lk).trans ck
        refine Mono.if_want rfl ?_
        have z1 : a.eval (.tmp 1) = .pointer (some ⟨gn, 0, none⟩) := hsu 1 (by decide)
        simp [Act.eval] at z1
        exact Mono.ok_val (.int .i64 now) (by simp [execOp, z1, go_sem, cn, cs, c0, ck, w1, w2, w3, w4, b1]) rfl
      · intro a u hbu hsu hdu
        have cn := (hbu.cell (p := ⟨gn, 0, none⟩) ln).trans cn; have cs := (hbu.cell (p := ⟨gs, 0, none⟩) ls).trans cs; have c0 := (hbu.cell (p := ⟨S, 0, none⟩) lS).trans c0; have ck := (hbu.cell (p := ⟨w.heap.size, 2, none⟩) lk).trans ck
        refine Mono.if_want rfl ?_
        have z3 : a.eval (.tmp 3) = .pointer (some ⟨w.heap.size, 0, none⟩) := hsu 3 (by decide)
        simp [Act.eval] at z3
        exact Mono.ok_val (.pointer (some ⟨w.heap.size, 2, none⟩)) (by simp [execOp, z3, go_sem, cn, cs, c0, ck, w1, w2, w3, w4, b1]) rfl
      · intro a u hbu hsu hdu
        have cn := (hbu.cell (p := ⟨gn, 0, none⟩) ln).trans cn; have cs := (hbu.cell (p := ⟨gs, 0, none⟩) ls).trans cs; have c0 := (hbu.cell (p := ⟨S, 0, none⟩) lS).trans c0; have ck := (hbu.cell (p := ⟨w.heap.size, 2, none⟩) lk).trans ck
        refine Mono.if_want rfl ?_
        have z6 : a.eval (.tmp 6) = .pointer (some ⟨w.heap.size, 2, none⟩) := Mono.dep_at hdu (i := 1) (d := 6) rfl rfl rfl
        simp [Act.eval] at z6
        exact Mono.ok_val (.int .i64 k.at_) (by simp [execOp, z6, go_sem, cn, cs, c0, ck, w1, w2, w3, w4, b1]) rfl
      · intro a u hbu hsu hdu
        have cn := (hbu.cell (p := ⟨gn, 0, none⟩) ln).trans cn; have cs := (hbu.cell (p := ⟨gs, 0, none⟩) ls).trans cs; have c0 := (hbu.cell (p := ⟨S, 0, none⟩) lS).trans c0; have ck := (hbu.cell (p := ⟨w.heap.size, 2, none⟩) lk).trans ck
        refine Mono.if_want rfl ?_
        have z5 : a.eval (.tmp 5) = .int .i64 now := Mono.dep_at hdu (i := 0) (d := 5) rfl rfl rfl
        simp [Act.eval] at z5
        have z7 : a.eval (.tmp 7) = .int .i64 k.at_ := Mono.dep_at hdu (i := 2) (d := 7) rfl rfl rfl
        simp [Act.eval] at z7
        exact Mono.ok_val (.bool true) (by simp [execOp, z5, z7, go_sem, cn, cs, c0, ck, w1, w2, w3, w4, b1]) rfl
      · intro a u hbu hsu hdu
        have cn := (hbu.cell (p := ⟨gn, 0, none⟩) ln).trans cn; have cs := (hbu.cell (p := ⟨gs, 0, none⟩) ls).trans cs; have c0 := (hbu.cell (p := ⟨S, 0, none⟩) lS).trans c0; have ck := (hbu.cell (p := ⟨w.heap.size, 2, none⟩) lk).trans ck
        refine Mono.if_want rfl ?_
        exact Mono.ok_move (.tmp 8) rfl (Mono.dep_at hdu (i := 3) (d := 8) rfl rfl rfl)
      · intro a u hbu hsu hdu
        have cn := (hbu.cell (p := ⟨gn, 0, none⟩) ln).trans cn; have cs := (hbu.cell (p := ⟨gs, 0, none⟩) ls).trans cs; have c0 := (hbu.cell (p := ⟨S, 0, none⟩) lS).trans c0; have ck := (hbu.cell (p := ⟨w.heap.size, 2, none⟩) lk).trans ck
        refine Mono.if_want (Mono.want_at (c := true) rfl rfl (Mono.dep_at hdu (i := 4) (d := 9) rfl rfl rfl) rfl) ?_
        have z1 : a.eval (.tmp 1) = .pointer (some ⟨gn, 0, none⟩) := hsu 1 (by decide)
        simp [Act.eval] at z1
        exact Mono.ok_val (.int .i64 now) (by simp [execOp, z1, go_sem, cn, cs, c0, ck, w1, w2, w3, w4, b1]) rfl
      · intro a u hbu hsu hdu
        have cn := (hbu.cell (p := ⟨gn, 0, none⟩) ln).trans cn; have cs := (hbu.cell (p := ⟨gs, 0, none⟩) ls).trans cs; have c0 := (hbu.cell (p := ⟨S, 0, none⟩) lS).trans c0; have ck := (hbu.cell (p := ⟨w.heap.size, 2, none⟩) lk).trans ck
        refine Mono.if_want (Mono.want_at (c := true) rfl rfl (Mono.dep_at hdu (i := 4) (d := 9) rfl rfl rfl) rfl) ?_
        have z10 : a.eval (.tmp 10) = .int .i64 now := Mono.dep_at hdu (i := 5) (d := 10) rfl rfl rfl
        simp [Act.eval] at z10
        exact Mono.ok_val (.int .u64 now) (by simp [execOp, z10, go_sem, cn, cs, c0, ck, w1, w2, w3, w4, b1] <;> simp [convert, IntKind.wrap_u64, IntKind.wrap_i64] <;> omega) rfl
      · intro a u hbu hsu hdu
        have cn := (hbu.cell (p := ⟨gn, 0, none⟩) ln).trans cn; have cs := (hbu.cell (p := ⟨gs, 0, none⟩) ls).trans cs; have c0 := (hbu.cell (p := ⟨S, 0, none⟩) lS).trans c0; have ck := (hbu.cell (p := ⟨w.heap.size, 2, none⟩) lk).trans ck
        refine Mono.if_want (Mono.want_at (c := true) rfl rfl (Mono.dep_at hdu (i := 4) (d := 9) rfl rfl rfl) rfl) ?_
        have z3 : a.eval (.tmp 3) = .pointer (some ⟨w.heap.size, 0, none⟩) := hsu 3 (by decide)
        simp [Act.eval] at z3
        exact Mono.ok_val (.pointer (some ⟨w.heap.size, 2, none⟩)) (by simp [execOp, z3, go_sem, cn, cs, c0, ck, w1, w2, w3, w4, b1]) rfl
      · intro a u hbu hsu hdu
        have cn := (hbu.cell (p := ⟨gn, 0, none⟩) ln).trans cn; have cs := (hbu.cell (p := ⟨gs, 0, none⟩) ls).trans cs; have c0 := (hbu.cell (p := ⟨S, 0, none⟩) lS).trans c0; have ck := (hbu.cell (p := ⟨w.heap.size, 2, none⟩) lk).trans ck
        refine Mono.if_want (Mono.want_at (c := true) rfl rfl (Mono.dep_at hdu (i := 4) (d := 9) rfl rfl rfl) rfl) ?_
        have z12 : a.eval (.tmp 12) = .pointer (some ⟨w.heap.size, 2, none⟩) := Mono.dep_at hdu (i := 7) (d := 12) rfl rfl rfl
        simp [Act.eval] at z12
        exact Mono.ok_val (.int .i64 k.at_) (by simp [execOp, z12, go_sem, cn, cs, c0, ck, w1, w2, w3, w4, b1]) rfl
      · intro a u hbu hsu hdu
        have cn := (hbu.cell (p := ⟨gn, 0, none⟩) ln).trans cn; have cs := (hbu.cell (p := ⟨gs, 0, none⟩) ls).trans cs; have c0 := (hbu.cell (p := ⟨S, 0, none⟩) lS).trans c0; have ck := (hbu.cell (p := ⟨w.heap.size, 2, none⟩) lk).trans ck
        refine Mono.if_want (Mono.want_at (c := true) rfl rfl (Mono.dep_at hdu (i := 4) (d := 9) rfl rfl rfl) rfl) ?_
        have z13 : a.eval (.tmp 13) = .int .i64 k.at_ := Mono.dep_at hdu (i := 8) (d := 13) rfl rfl rfl
        simp [Act.eval] at z13
        exact Mono.ok_val (.int .u64 k.at_) (by simp [execOp, z13, go_sem, cn, cs, c0, ck, w1, w2, w3, w4, b1] <;> simp [convert, IntKind.wrap_u64, IntKind.wrap_i64] <;> omega) rfl
      · intro a u hbu hsu hdu
        have cn := (hbu.cell (p := ⟨gn, 0, none⟩) ln).trans cn; have cs := (hbu.cell (p := ⟨gs, 0, none⟩) ls).trans cs; have c0 := (hbu.cell (p := ⟨S, 0, none⟩) lS).trans c0; have ck := (hbu.cell (p := ⟨w.heap.size, 2, none⟩) lk).trans ck
        refine Mono.if_want (Mono.want_at (c := true) rfl rfl (Mono.dep_at hdu (i := 4) (d := 9) rfl rfl rfl) rfl) ?_
        have z11 : a.eval (.tmp 11) = .int .u64 now := Mono.dep_at hdu (i := 6) (d := 11) rfl rfl rfl
        simp [Act.eval] at z11
        have z14 : a.eval (.tmp 14) = .int .u64 k.at_ := Mono.dep_at hdu (i := 9) (d := 14) rfl rfl rfl
        simp [Act.eval] at z14
        exact Mono.ok_val (.int .u64 (now - k.at_)) (by simp [execOp, z11, z14, go_sem, cn, cs, c0, ck, w1, w2, w3, w4, b1]) rfl
      · intro a u hbu hsu hdu
        have cn := (hbu.cell (p := ⟨gn, 0, none⟩) ln).trans cn; have cs := (hbu.cell (p := ⟨gs, 0, none⟩) ls).trans cs; have c0 := (hbu.cell (p := ⟨S, 0, none⟩) lS).trans c0; have ck := (hbu.cell (p := ⟨w.heap.size, 2, none⟩) lk).trans ck
        refine Mono.if_want (Mono.want_at (c := true) rfl rfl (Mono.dep_at hdu (i := 4) (d := 9) rfl rfl rfl) rfl) ?_
        have z2 : a.eval (.tmp 2) = .pointer (some ⟨gs, 0, none⟩) := hsu 2 (by decide)
        simp [Act.eval] at z2
        exact Mono.ok_val (.pointer (some ⟨S, 0, none⟩)) (by simp [execOp, z2, go_sem, cn, cs, c0, ck, w1, w2, w3, w4, b1]) rfl
      · intro a u hbu hsu hdu
        have cn := (hbu.cell (p := ⟨gn, 0, none⟩) ln).trans cn; have cs := (hbu.cell (p := ⟨gs, 0, none⟩) ls).trans cs; have c0 := (hbu.cell (p := ⟨S, 0, none⟩) lS).trans c0; have ck := (hbu.cell (p := ⟨w.heap.size, 2, none⟩) lk).trans ck
        refine Mono.if_want (Mono.want_at (c := true) rfl rfl (Mono.dep_at hdu (i := 4) (d := 9) rfl rfl rfl) rfl) ?_
        have z16 : a.eval (.tmp 16) = .pointer (some ⟨S, 0, none⟩) := Mono.dep_at hdu (i := 11) (d := 16) rfl rfl rfl
        simp [Act.eval] at z16
        exact Mono.ok_val (.pointer (some ⟨S, 0, none⟩)) (by simp [execOp, z16, go_sem, cn, cs, c0, ck, w1, w2, w3, w4, b1]) rfl
      · intro a u hbu hsu hdu
        have cn := (hbu.cell (p := ⟨gn, 0, none⟩) ln).trans cn; have cs := (hbu.cell (p := ⟨gs, 0, none⟩) ls).trans cs; have c0 := (hbu.cell (p := ⟨S, 0, none⟩) lS).trans c0; have ck := (hbu.cell (p := ⟨w.heap.size, 2, none⟩) lk).trans ck
        refine Mono.if_want (Mono.want_at (c := true) rfl rfl (Mono.dep_at hdu (i := 4) (d := 9) rfl rfl rfl) rfl) ?_
        have z17 : a.eval (.tmp 17) = .pointer (some ⟨S, 0, none⟩) := Mono.dep_at hdu (i := 12) (d := 17) rfl rfl rfl
        simp [Act.eval] at z17
        exact Mono.ok_val (.pointer (some ⟨S, 0, none⟩)) (by simp [execOp, z17, go_sem, cn, cs, c0, ck, w1, w2, w3, w4, b1]) rfl
      · intro a u hbu hsu hdu
        have cn := (hbu.cell (p := ⟨gn, 0, none⟩) ln).trans cn; have cs := (hbu.cell (p := ⟨gs, 0, none⟩) ls).trans cs; have c0 := (hbu.cell (p := ⟨S, 0, none⟩) lS).trans c0; have ck := (hbu.cell (p := ⟨w.heap.size, 2, none⟩) lk).trans ck
        refine Mono.if_want (Mono.want_at (c := true) rfl rfl (Mono.dep_at hdu (i := 4) (d := 9) rfl rfl rfl) rfl) ?_
        have z18 : a.eval (.tmp 18) = .pointer (some ⟨S, 0, none⟩) := Mono.dep_at hdu (i := 13) (d := 18) rfl rfl rfl
        simp [Act.eval] at z18
        exact Mono.ok_val (.int .i64 window) (by simp [execOp, z18, go_sem, cn, cs, c0, ck, w1, w2, w3, w4, b1]) rfl
      · intro a u hbu hsu hdu
        have cn := (hbu.cell (p := ⟨gn, 0, none⟩) ln).trans cn; have cs := (hbu.cell (p := ⟨gs, 0, none⟩) ls).trans cs; have c0 := (hbu.cell (p := ⟨S, 0, none⟩) lS).trans c0; have ck := (hbu.cell (p := ⟨w.heap.size, 2, none⟩) lk).trans ck
        refine Mono.if_want (Mono.want_at (c := true) rfl rfl (Mono.dep_at hdu (i := 4) (d := 9) rfl rfl rfl) rfl) ?_
        have z19 : a.eval (.tmp 19) = .int .i64 window := Mono.dep_at hdu (i := 14) (d := 19) rfl rfl rfl
        simp [Act.eval] at z19
        exact Mono.ok_val (.int .u64 window) (by simp [execOp, z19, go_sem, cn, cs, c0, ck, w1, w2, w3, w4, b1] <;> simp [convert, IntKind.wrap_u64, IntKind.wrap_i64] <;> omega) rfl
      · intro a u hbu hsu hdu
        have cn := (hbu.cell (p := ⟨gn, 0, none⟩) ln).trans cn; have cs := (hbu.cell (p := ⟨gs, 0, none⟩) ls).trans cs; have c0 := (hbu.cell (p := ⟨S, 0, none⟩) lS).trans c0; have ck := (hbu.cell (p := ⟨w.heap.size, 2, none⟩) lk).trans ck
        refine Mono.if_want (Mono.want_at (c := true) rfl rfl (Mono.dep_at hdu (i := 4) (d := 9) rfl rfl rfl) rfl) ?_
        have z15 : a.eval (.tmp 15) = .int .u64 (now - k.at_) := Mono.dep_at hdu (i := 10) (d := 15) rfl rfl rfl
        simp [Act.eval] at z15
        have z20 : a.eval (.tmp 20) = .int .u64 window := Mono.dep_at hdu (i := 15) (d := 20) rfl rfl rfl
        simp [Act.eval] at z20
        exact Mono.ok_val (.bool (decide (window < now - k.at_))) (by simp [execOp, z15, z20, go_sem, cn, cs, c0, ck, w1, w2, w3, w4, b1]) rfl
      · intro a u hbu hsu hdu
        have cn := (hbu.cell (p := ⟨gn, 0, none⟩) ln).trans cn; have cs := (hbu.cell (p := ⟨gs, 0, none⟩) ls).trans cs; have c0 := (hbu.cell (p := ⟨S, 0, none⟩) lS).trans c0; have ck := (hbu.cell (p := ⟨w.heap.size, 2, none⟩) lk).trans ck
        refine Mono.if_want rfl ?_
        have z9 : a.eval (.tmp 9) = .bool true := Mono.dep_at hdu (i := 4) (d := 9) rfl rfl rfl
        simp [Act.eval] at z9
        have z21 : a.eval (.tmp 21) = .bool (decide (window < now - k.at_)) := Mono.dep_at hdu (i := 16) (d := 21) rfl rfl rfl
        simp [Act.eval] at z21
        exact Mono.ok_val (.bool (decide (window < now - k.at_))) (by simp [execOp, z9, z21, go_sem, cn, cs, c0, ck, w1, w2, w3, w4, b1]) rfl
      · intro a u hbu hsu hdu
        have cn := (hbu.cell (p := ⟨gn, 0, none⟩) ln).trans cn; have cs := (hbu.cell (p := ⟨gs, 0, none⟩) ls).trans cs; have c0 := (hbu.cell (p := ⟨S, 0, none⟩) lS).trans c0; have ck := (hbu.cell (p := ⟨w.heap.size, 2, none⟩) lk).trans ck
        refine Mono.if_want rfl ?_
        exact Mono.ok_assign (.tmp 22) rfl (Mono.dep_at hdu (i := 17) (d := 22) rfl rfl rfl)
    intro u hu
    simp only [Mono.Fin]
    rintro _ rfl _ rfl _ rfl _ rfl _ rfl _ rfl _ rfl _ rfl _ rfl _ rfl _ rfl _ rfl _ rfl _ rfl _ rfl _ rfl _ rfl _ rfl _ rfl
    simp [Act.put]
    go_wp2
    go_ret
    exact ⟨rfl, hb0.trans (hu.mono hb0.size)⟩
  · have e1 : oldB now window k = false := by unfold oldB; simp [h1]
    rw [e1]
    have b1 : decide (k.at_ < now) = false := decide_eq_false h1
    clear e1
    go_enter Try.func15, Try.ntmps15
    go_wp2_with ((with_reducible refine wpl_boxAt rfl 46 (.tmp 0) rfl (rowK k d).toArray ?_ ?_); rfl; go_must (intro w5 hatk hb hs5; clear hs5))
    have cn := (hn.ext hb).cell 0
    have ck := hatk.cell 2
    simp [rowK] at cn ck
    have ln := (hn.ext hb).lt
    have lk := hatk.lt
    have hb0 := hb
    refine Mono.wp_region_mono [some 5, some 6, some 7, some 8, some 9, some 10, some 11, some 12, some 13, some 14, some 15, some 16, some 17, some 18, some 19, some 20, some 21, some 22, some 4] [Mono.isV (.int .i64 now), Mono.isV (.pointer (some ⟨w.heap.size, 2, none⟩)), Mono.isV (.int .i64 k.at_), Mono.isV (.bool false), Mono.isV (.bool false), Mono.isV (undef), Mono.isV (undef), Mono.isV (undef), Mono.isV (undef), Mono.isV (undef), Mono.isV (undef), Mono.isV (undef), Mono.isV (undef), Mono.isV (undef), Mono.isV (undef), Mono.isV (undef), Mono.isV (undef), Mono.isV (.bool false), Mono.isV (.bool false)] (by kernel_rfl) (by kernel_rfl) ?_ ?_
    · simp only [Mono.OpGoals, and_true]
      refine ⟨?_, ?_, ?_, ?_, ?_, ?_, ?_, ?_, ?_, ?_, ?_, ?_, ?_, ?_, ?_, ?_, ?_, ?_, ?_⟩
      · intro a u hbu hsu hdu
        have cn := (hbu.cell (p := ⟨gn, 0, none⟩) ln).trans cn; have ck := (hbu.cell (p := ⟨w.heap.size, 2, none⟩) lk).trans ck
        refine Mono.if_want rfl ?_
        have z1 : a.eval (.tmp 1) = .pointer (some ⟨gn, 0, none⟩) := hsu 1 (by decide)
        simp [Act.eval] at z1
        exact Mono.ok_val (.int .i64 now) (by simp [execOp, z1, go_sem, cn, ck, b1]) rfl
      · intro a u hbu hsu hdu
        have cn := (hbu.cell (p := ⟨gn, 0, none⟩) ln).trans cn; have ck := (hbu.cell (p := ⟨w.heap.size, 2, none⟩) lk).trans ck
        refine Mono.if_want rfl ?_
        have z3 : a.eval (.tmp 3) = .pointer (some ⟨w.heap.size, 0, none⟩) := hsu 3 (by decide)
        simp [Act.eval] at z3
        exact Mono.ok_val (.pointer (some ⟨w.heap.size, 2, none⟩)) (by simp [execOp, z3, go_sem, cn, ck, b1]) rfl
      · intro a u hbu hsu hdu
        have cn := (hbu.cell (p := ⟨gn, 0, none⟩) ln).trans cn; have ck := (hbu.cell (p := ⟨w.heap.size, 2, none⟩) lk).trans ck
        refine Mono.if_want rfl ?_
        have z6 : a.eval (.tmp 6) = .pointer (some ⟨w.heap.size, 2, none⟩) := Mono.dep_at hdu (i := 1) (d := 6) rfl rfl rfl
        simp [Act.eval] at z6
        exact Mono.ok_val (.int .i64 k.at_) (by simp [execOp, z6, go_sem, cn, ck, b1]) rfl
      · intro a u hbu hsu hdu
        have cn := (hbu.cell (p := ⟨gn, 0, none⟩) ln).trans cn; have ck := (hbu.cell (p := ⟨w.heap.size, 2, none⟩) lk).trans ck
        refine Mono.if_want rfl ?_
        have z5 : a.eval (.tmp 5) = .int .i64 now := Mono.dep_at hdu (i := 0) (d := 5) rfl rfl rfl
        simp [Act.eval] at z5
        have z7 : a.eval (.tmp 7) = .int .i64 k.at_ := Mono.dep_at hdu (i := 2) (d := 7) rfl rfl rfl
        simp [Act.eval] at z7
        exact Mono.ok_val (.bool false) (by simp [execOp, z5, z7, go_sem, cn, ck, b1]) rfl
      · intro a u hbu hsu hdu
        have cn := (hbu.cell (p := ⟨gn, 0, none⟩) ln).trans cn; have ck := (hbu.cell (p := ⟨w.heap.size, 2, none⟩) lk).trans ck
        refine Mono.if_want rfl ?_
        exact Mono.ok_move (.tmp 8) rfl (Mono.dep_at hdu (i := 3) (d := 8) rfl rfl rfl)
      · intro a u hbu hsu hdu
        have cn := (hbu.cell (p := ⟨gn, 0, none⟩) ln).trans cn; have ck := (hbu.cell (p := ⟨w.heap.size, 2, none⟩) lk).trans ck
        refine Mono.if_no (Mono.want_no (c := false) rfl rfl (Mono.dep_at hdu (i := 4) (d := 9) rfl rfl rfl) rfl) ?_
        exact rfl
      · intro a u hbu hsu hdu
        have cn := (hbu.cell (p := ⟨gn, 0, none⟩) ln).trans cn; have ck := (hbu.cell (p := ⟨w.heap.size, 2, none⟩) lk).trans ck
        refine Mono.if_no (Mono.want_no (c := false) rfl rfl (Mono.dep_at hdu (i := 4) (d := 9) rfl rfl rfl) rfl) ?_
        exact rfl
      · intro a u hbu hsu hdu
        have cn := (hbu.cell (p := ⟨gn, 0, none⟩) ln).trans cn; have ck := (hbu.cell (p := ⟨w.heap.size, 2, none⟩) lk).trans ck
        refine Mono.if_no (Mono.want_no (c := false) rfl rfl (Mono.dep_at hdu (i := 4) (d := 9) rfl rfl rfl) rfl) ?_
        exact rfl
      · intro a u hbu hsu hdu
        have cn := (hbu.cell (p := ⟨gn, 0, none⟩) ln).trans cn; have ck := (hbu.cell (p := ⟨w.heap.size, 2, none⟩) lk).trans ck
        refine Mono.if_no (Mono.want_no (c := false) rfl rfl (Mono.dep_at hdu (i := 4) (d := 9) rfl rfl rfl) rfl) ?_
        exact rfl
      · intro a u hbu hsu hdu
        have cn := (hbu.cell (p := ⟨gn, 0, none⟩) ln).trans cn; have ck := (hbu.cell (p := ⟨w.heap.size, 2, none⟩) lk).trans ck
        refine Mono.if_no (Mono.want_no (c := false) rfl rfl (Mono.dep_at hdu (i := 4) (d := 9) rfl rfl rfl) rfl) ?_
        exact rfl
      · intro a u hbu hsu hdu
        have cn := (hbu.cell (p := ⟨gn, 0, none⟩) ln).trans cn; have ck := (hbu.cell (p := ⟨w.heap.size, 2, none⟩) lk).trans ck
        refine Mono.if_no (Mono.want_no (c := false) rfl rfl (Mono.dep_at hdu (i := 4) (d := 9) rfl rfl rfl) rfl) ?_
        exact rfl
      · intro a u hbu hsu hdu
        have cn := (hbu.cell (p := ⟨gn, 0, none⟩) ln).trans cn; have ck := (hbu.cell (p := ⟨w.heap.size, 2, none⟩) lk).trans ck
        refine Mono.if_no (Mono.want_no (c := false) rfl rfl (Mono.dep_at hdu (i := 4) (d := 9) rfl rfl rfl) rfl) ?_
        exact rfl
      · intro a u hbu hsu hdu
        have cn := (hbu.cell (p := ⟨gn, 0, none⟩) ln).trans cn; have ck := (hbu.cell (p := ⟨w.heap.size, 2, none⟩) lk).trans ck
        refine Mono.if_no (Mono.want_no (c := false) rfl rfl (Mono.dep_at hdu (i := 4) (d := 9) rfl rfl rfl) rfl) ?_
        exact rfl
      · intro a u hbu hsu hdu
        have cn := (hbu.cell (p := ⟨gn, 0, none⟩) ln).trans cn; have ck := (hbu.cell (p := ⟨w.heap.size, 2, none⟩) lk).trans ck
        refine Mono.if_no (Mono.want_no (c := false) rfl rfl (Mono.dep_at hdu (i := 4) (d := 9) rfl rfl rfl) rfl) ?_
        exact rfl
      · intro a u hbu hsu hdu
        have cn := (hbu.cell (p := ⟨gn, 0, none⟩) ln).trans cn; have ck := (hbu.cell (p := ⟨w.heap.size, 2, none⟩) lk).trans ck
        refine Mono.if_no (Mono.want_no (c := false) rfl rfl (Mono.dep_at hdu (i := 4) (d := 9) rfl rfl rfl) rfl) ?_
        exact rfl
      · intro a u hbu hsu hdu
        have cn := (hbu.cell (p := ⟨gn, 0, none⟩) ln).trans cn; have ck := (hbu.cell (p := ⟨w.heap.size, 2, none⟩) lk).trans ck
        refine Mono.if_no (Mono.want_no (c := false) rfl rfl (Mono.dep_at hdu (i := 4) (d := 9) rfl rfl rfl) rfl) ?_
        exact rfl
      · intro a u hbu hsu hdu
        have cn := (hbu.cell (p := ⟨gn, 0, none⟩) ln).trans cn; have ck := (hbu.cell (p := ⟨w.heap.size, 2, none⟩) lk).trans ck
        refine Mono.if_no (Mono.want_no (c := false) rfl rfl (Mono.dep_at hdu (i := 4) (d := 9) rfl rfl rfl) rfl) ?_
        exact rfl
      · intro a u hbu hsu hdu
        have cn := (hbu.cell (p := ⟨gn, 0, none⟩) ln).trans cn; have ck := (hbu.cell (p := ⟨w.heap.size, 2, none⟩) lk).trans ck
        refine Mono.if_want rfl ?_
        have z9 : a.eval (.tmp 9) = .bool false := Mono.dep_at hdu (i := 4) (d := 9) rfl rfl rfl
        simp [Act.eval] at z9
        have z21 : a.eval (.tmp 21) = undef := Mono.dep_at hdu (i := 16) (d := 21) rfl rfl rfl
        simp [Act.eval] at z21
        exact Mono.ok_val (.bool false) (by simp [execOp, z9, z21, go_sem, cn, ck, b1]) rfl
      · intro a u hbu hsu hdu
        have cn := (hbu.cell (p := ⟨gn, 0, none⟩) ln).trans cn; have ck := (hbu.cell (p := ⟨w.heap.size, 2, none⟩) lk).trans ck
        refine Mono.if_want rfl ?_
        exact Mono.ok_assign (.tmp 22) rfl (Mono.dep_at hdu (i := 17) (d := 22) rfl rfl rfl)
    intro u hu
    simp only [Mono.Fin]
    rintro _ rfl _ rfl _ rfl _ rfl _ rfl _ rfl _ rfl _ rfl _ rfl _ rfl _ rfl _ rfl _ rfl _ rfl _ rfl _ rfl _ rfl _ rfl _ rfl
    simp [Act.put]
    go_wp2
    go_ret
    exact ⟨rfl, hb0.trans (hu.mono hb0.size)⟩
theorem range_key {w : World} {g : Nat} {k : K} {d : Value} (h : At w g 46 (rowK k d).toArray) : w.rangeAt g 0 (#[.string k.host, .int .u32 k.fin] : Array Value).toList := fun j v hv => by
  rw [Nat.zero_add, h.cell j]
  match j with
  | 0 => simpa [rowK] using hv
  | 1 => simpa [rowK] using hv
  | j + 2 => simp at hv
set_option maxRecDepth 100000 in
set_option maxHeartbeats 800000 in
theorem isHit (k : K) (d : Value) (host : ByteArray) (fin : Int) (g : Nat) (w : World) (hd : d.oneCell' = true) (hk : At w g 42 #[.string host, .int .u32 fin]) :
    Calls Try.prog 17 #[.agg (rowK k d).toArray, .pointer (some ⟨g, 0, none⟩)] w fun e w' => e = .returned (.bool (hitB host fin k)) ∧ Below w.heap.size w w' := by
  go_enter Try.func17, Try.ntmps17
  go_wp2_with (first
    | ((with_reducible refine wpl_boxAt rfl 46 (.tmp 0) rfl (rowK k d).toArray ?_ ?_); rfl; go_must (intro w5 hatk hb hs5; clear hs5; have hk5 := hk.ext hb; have rk := Lib.hid (range_key hatk)))
    | ((with_reducible refine wpl_loadE rfl 42 (.tmp 4) rfl w.heap.size 0 ?_ #[.string k.host, .int .u32 k.fin] _ rk.out Try.underlying42 rfl (by kernel_rfl) ?_); rfl)
    | ((with_reducible refine wpl_loadAt rfl 42 (.tmp 1) rfl g 42 #[.string host, .int .u32 fin] hk5 _ Try.underlying42 rfl (by kernel_rfl) ?_ ?_); rfl))
  all_goals (go_ret; exact ⟨by simp [hitB, *], hb⟩)
/-- The place of the first one. -/
def place (p : K → Bool) (ks : List K) : Nat := ks.findIdx p
def posI (p : K → Bool) (ks : List K) : Int := if place p ks < ks.length then (place p ks : Int) else -1
theorem place_le (p : K → Bool) (ks : List K) : place p ks ≤ ks.length := List.findIdx_le_length
theorem place_miss (p : K → Bool) (ks : List K) (k : Nat) (x : K) (h : k < place p ks) (hx : ks[k]? = some x) : p x = false := by
  obtain ⟨h1, rfl⟩ := List.getElem?_eq_some_iff.1 hx
  exact by simpa using List.not_of_lt_findIdx h
theorem place_hit (p : K → Bool) (ks : List K) (x : K) (hx : ks[place p ks]? = some x) : p x = true := by
  obtain ⟨h1, rfl⟩ := List.getElem?_eq_some_iff.1 hx
  exact List.findIdx_getElem (w := h1)
set_option maxRecDepth 100000 in
set_option maxHeartbeats 1600000 in
theorem indexOld (v : Value) (ks : List K) (B : Nat) (now window most last : Int) (v0 : Value) (gn gs S : Nat) (w : World) (hr : OwnK B w v ks) (hok : ∀ k ∈ ks, k.ok) (hnow : i64 now) (hwin : 0 ≤ window ∧ window ≤ 1048576) (hn : At w gn 3 #[.int .i64 now]) (hs : At w gs 25 #[.pointer (some ⟨S, 0, none⟩)]) (hS : At w S 39 #[.int .i64 window, .int .i64 most, v0, .int .i64 last]) :
    Calls Try.prog 16 #[v, .func (.func 15) #[] #[.pointer (some ⟨gn, 0, none⟩), .pointer (some ⟨gs, 0, none⟩)]] w fun e w' => e = .returned (.int .i64 (posI (oldB now window) ks)) ∧ Below w.heap.size w w' := by
  obtain ⟨p, c, rfl, q1, q2⟩ := hr.shape
  have hmax : ks.length ≤ 9223372036854775807 := by unfold maxLen at q2; omega
  have HR := Lib.hid hr
  have HOK := Lib.hid hok
  have PF := Lib.hid (fun (x : K) (hx : x ∈ ks) (d : Value) (hd : d.oneCell' = true) u (hu : Below w.heap.size w u) => isOld x d now window most last v0 gn gs S u (HOK.out x hx) hnow hwin hd (hn.ext hu) (hs.ext hu) (hS.ext hu))
  obtain ⟨i, hi⟩ : ∃ i, place (oldB now window) ks = i := ⟨_, rfl⟩
  have hle := place_le (oldB now window) ks
  rw [hi] at hle
  have HM := Lib.hid (fun k x (h : k < i) => place_miss (oldB now window) ks k x (by rw [hi]; exact h))
  have HH := Lib.hid (fun x => place_hit (oldB now window) ks x)
  rw [hi] at HH
  have HP := Lib.hid (show posI (oldB now window) ks = if i < ks.length then (i : Int) else -1 by unfold posI; rw [hi])
  obtain ⟨n, hnn⟩ : ∃ n, ks.length = n := ⟨_, rfl⟩
  rw [hnn] at HR hmax hle HP ⊢
  have HN := Lib.hid hnn
  clear hr hok hi q1 q2 hnn hnow hwin hn hs hS
  go_enter Try.func16, Try.ntmps16
  go_wp2_with fail
  go_loopw [8] (fun j wr => ∃ k : Nat, j = .int .i64 k ∧ k ≤ i ∧ Below w.heap.size w wr) (fun j _ => n - (intOf j).toNat)
  case atStart => exact ⟨0, rfl, by omega, Below.refl _ _⟩
  case round =>
    obtain ⟨k, rfl, hk, hbl⟩ := hrel
    by_cases hlt : k < n
    · have hel := (HR.out.below hbl).elem k (by rw [HN.out]; exact hlt)
      rw [HN.out] at hel
      obtain ⟨x, d, hx1, hx2, hrd, _, b, off, c', hv, hltb, hra⟩ := hel
      cases hv
      have hone : d.oneCell' = true := by obtain ⟨_, _, rfl, _⟩ := hrd; rfl
      have HRA := Lib.hid hra
      have HX := Lib.hid hx1
      have HX2 := Lib.hid hx2
      clear hra hx1 hrd hx2
      by_cases hki : k < i
      · have hpx := HM.out k x hki HX.out
        have PF2 := Lib.hid (fun u (hu : Below w.heap.size w u) => by have := PF.out x HX2.out d hone u hu; rwa [hpx] at this)
        clear hpx
        go_wp2_with (first
          | ((with_reducible refine wpl_loadE rfl 46 (.tmp 14) rfl b (off + k * 4) ?_ (rowK x d).toArray _ HRA.out Try.underlying46 rfl (by kernel_rfl) ?_); rfl; clear HRA)
          | (go_at_call 15; go_must (refine (PF2.out _ hbl).mono ?_; rintro e u ⟨rfl, hb⟩; have hbl2 := hbl.trans (hb.mono hbl.size))))
        go_roundw
        case rel => exact ⟨k + 1, by go_num, by omega, hbl2⟩
        case measure => simp [intOf]; omega
      · obtain rfl : k = i := by omega
        have hpx := HH.out x HX.out
        have PF2 := Lib.hid (fun u (hu : Below w.heap.size w u) => by have := PF.out x HX2.out d hone u hu; rwa [hpx] at this)
        have HP2 := Lib.hid (HP.out.trans (if_pos hlt))
        clear hpx
        go_wp2_with (first
          | ((with_reducible refine wpl_loadE rfl 46 (.tmp 14) rfl b (off + k * 4) ?_ (rowK x d).toArray _ HRA.out Try.underlying46 rfl (by kernel_rfl) ?_); rfl; clear HRA)
          | (go_at_call 15; go_must (refine (PF2.out _ hbl).mono ?_; rintro e u ⟨rfl, hb⟩; have hbl2 := hbl.trans (hb.mono hbl.size))))
        go_ret
        exact ⟨by rw [HP2.out]; rfl, hbl2⟩
    · have HP2 := Lib.hid (HP.out.trans (if_neg (by omega)))
      go_wp2_with fail
      go_ret
      exact ⟨by rw [HP2.out]; rfl, hbl⟩
set_option maxRecDepth 100000 in
set_option maxHeartbeats 1600000 in
theorem indexHit (v : Value) (ks : List K) (B : Nat) (host : ByteArray) (fin : Int) (g : Nat) (w : World) (hr : OwnK B w v ks) (hok : ∀ k ∈ ks, k.ok) (hk : At w g 42 #[.string host, .int .u32 fin]) :
    Calls Try.prog 16 #[v, .func (.func 17) #[] #[.pointer (some ⟨g, 0, none⟩)]] w fun e w' => e = .returned (.int .i64 (posI (hitB host fin) ks)) ∧ Below w.heap.size w w' := by
  obtain ⟨p, c, rfl, q1, q2⟩ := hr.shape
  have hmax : ks.length ≤ 9223372036854775807 := by unfold maxLen at q2; omega
  have HR := Lib.hid hr
  have HOK := Lib.hid hok
  have PF := Lib.hid (fun (x : K) (hx : x ∈ ks) (d : Value) (hd : d.oneCell' = true) u (hu : Below w.heap.size w u) => isHit x d host fin g u hd (hk.ext hu))
  obtain ⟨i, hi⟩ : ∃ i, place (hitB host fin) ks = i := ⟨_, rfl⟩
  have hle := place_le (hitB host fin) ks
  rw [hi] at hle
  have HM := Lib.hid (fun k x (h : k < i) => place_miss (hitB host fin) ks k x (by rw [hi]; exact h))
  have HH := Lib.hid (fun x => place_hit (hitB host fin) ks x)
  rw [hi] at HH
  have HP := Lib.hid (show posI (hitB host fin) ks = if i < ks.length then (i : Int) else -1 by unfold posI; rw [hi])
  obtain ⟨n, hnn⟩ : ∃ n, ks.length = n := ⟨_, rfl⟩
  rw [hnn] at HR hmax hle HP ⊢
  have HN := Lib.hid hnn
  clear hr hok hi q1 q2 hnn hk
  go_enter Try.func16, Try.ntmps16
  go_wp2_with fail
  go_loopw [8] (fun j wr => ∃ k : Nat, j = .int .i64 k ∧ k ≤ i ∧ Below w.heap.size w wr) (fun j _ => n - (intOf j).toNat)
  case atStart => exact ⟨0, rfl, by omega, Below.refl _ _⟩
  case round =>
    obtain ⟨k, rfl, hk, hbl⟩ := hrel
    by_cases hlt : k < n
    · have hel := (HR.out.below hbl).elem k (by rw [HN.out]; exact hlt)
      rw [HN.out] at hel
      obtain ⟨x, d, hx1, hx2, hrd, _, b, off, c', hv, hltb, hra⟩ := hel
      cases hv
      have hone : d.oneCell' = true := by obtain ⟨_, _, rfl, _⟩ := hrd; rfl
      have HRA := Lib.hid hra
      have HX := Lib.hid hx1
      have HX2 := Lib.hid hx2
      clear hra hx1 hrd hx2
      by_cases hki : k < i
      · have hpx := HM.out k x hki HX.out
        have PF2 := Lib.hid (fun u (hu : Below w.heap.size w u) => by have := PF.out x HX2.out d hone u hu; rwa [hpx] at this)
        clear hpx
        go_wp2_with (first
          | ((with_reducible refine wpl_loadE rfl 46 (.tmp 14) rfl b (off + k * 4) ?_ (rowK x d).toArray _ HRA.out Try.underlying46 rfl (by kernel_rfl) ?_); rfl; clear HRA)
          | (go_at_call 17; go_must (refine (PF2.out _ hbl).mono ?_; rintro e u ⟨rfl, hb⟩; have hbl2 := hbl.trans (hb.mono hbl.size))))
        go_roundw
        case rel => exact ⟨k + 1, by go_num, by omega, hbl2⟩
        case measure => simp [intOf]; omega
      · obtain rfl : k = i := by omega
        have hpx := HH.out x HX.out
        have PF2 := Lib.hid (fun u (hu : Below w.heap.size w u) => by have := PF.out x HX2.out d hone u hu; rwa [hpx] at this)
        have HP2 := Lib.hid (HP.out.trans (if_pos hlt))
        clear hpx
        go_wp2_with (first
          | ((with_reducible refine wpl_loadE rfl 46 (.tmp 14) rfl b (off + k * 4) ?_ (rowK x d).toArray _ HRA.out Try.underlying46 rfl (by kernel_rfl) ?_); rfl; clear HRA)
          | (go_at_call 17; go_must (refine (PF2.out _ hbl).mono ?_; rintro e u ⟨rfl, hb⟩; have hbl2 := hbl.trans (hb.mono hbl.size))))
        go_ret
        exact ⟨by rw [HP2.out]; rfl, hbl2⟩
    · have HP2 := Lib.hid (HP.out.trans (if_neg (by omega)))
      go_wp2_with fail
      go_ret
      exact ⟨by rw [HP2.out]; rfl, hbl⟩
end Go.Proofs.Ytmbhiajhlfjknaa.Dup
