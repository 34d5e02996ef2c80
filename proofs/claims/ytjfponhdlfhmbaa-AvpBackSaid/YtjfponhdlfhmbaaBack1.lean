/-
  The law AvpBack: the walks, by cases. (Printed by gen_back.py.)
-/
import Derived.Test.YtjfponhdlfhmbaaPlain2
namespace Go.Proofs.Ytjfponhdlfhmbaa.Avp
open Go.RowKit Mem Cells Avps Wire Ops
set_option linter.unusedVariables false
set_option linter.unusedSimpArgs false

theorem shapeN {k : IntKind} {w : World} {v : Value} {xs : List Int} (h : Reads k w v xs) : ∃ p c, v = .slice p xs.length c ∧ xs.length ≤ c ∧ c ≤ maxLen := by
  obtain ⟨p, c, rfl, h1, h2, _⟩ := h
  exact ⟨p, c, rfl, h1, h2⟩
set_option maxRecDepth 100000 in
set_option maxHeartbeats 800000 in
theorem back_A1 (v v' v2 : Value) (al bl : List A) (xs : List Int) (L : List A) (kk : Int) (w : World) (hr1 : ReadsL w v al) (hr2 : ReadsL w v' bl) (hr3 : Reads .u8 w v2 xs) (hok1 : ∀ a ∈ al, a.ok) (hok2 : ∀ a ∈ bl, a.ok) (hd1 : ∀ a ∈ al, a.data.length ≤ 140737488351232) (hd2 : ∀ a ∈ bl, a.data.length ≤ 140737488351232) (hwf : ∀ x ∈ xs, 0 ≤ x ∧ x ≤ 255) (hb : xs.length ≤ 140737488351232) (he : putOf al = ([], 4)) (hf : putOf bl = ([], 4)) (hg : getOf xs = (L, kk, 0)) :
    Calls Try.prog 5 #[v, v', v2] w fun e w' => e = .returned (.bool true) ∧ Below w.heap.size w w' := by
  obtain ⟨p1, c1, rfl, q11, q12⟩ := hr1.shape
  obtain ⟨p2, c2, rfl, q21, q22⟩ := hr2.shape
  obtain ⟨p3, c3, rfl, q31, q32⟩ := shapeN hr3
  have PO1 := Lib.hid (own _ al w hr1 (fun a ha => by have := hd1 a ha; omega))
  have PO2 := Lib.hid (fun u (h : ReadsL u (.slice p2 bl.length c2) bl) => own _ bl u h (fun a ha => by have := hd2 a ha; omega))
  have PP1 := Lib.hid (fun v u (h : ReadsL u v (al.take 200)) => by have := avpPut v (al.take 200) u h (fun a ha => ⟨hok1 a (List.mem_of_mem_take ha), by have := hd1 a (List.mem_of_mem_take ha); omega⟩); rwa [putOf_take, he] at this)
  have PP2 := Lib.hid (fun v u (h : ReadsL u v (bl.take 200)) => by have := avpPut v (bl.take 200) u h (fun a ha => ⟨hok2 a (List.mem_of_mem_take ha), by have := hd2 a (List.mem_of_mem_take ha); omega⟩); rwa [putOf_take, hf] at this)
  have PG3 := Lib.hid (fun v u (h : Reads .u8 u v xs) => by have := avpGet v xs u h hwf; rwa [hg] at this)
  obtain ⟨Z, z1, z2, z3, z4⟩ := got_ok hwf hg
  obtain ⟨t1, t2, t3, t4, t5⟩ := put_ok z1 z3
  have PP3 := Lib.hid (fun v u (h : ReadsL u v L) => by have := avpPut v L u h (fun a ha => ⟨z3 a ha, by have := z4 a ha; omega⟩); rwa [z1] at this)
  have PG4 := Lib.hid (fun v u (h : Reads .u8 u v Z) => by have := avpGet v Z u h t4; rwa [t5] at this)
  have SA3 := Lib.hid (fun v v' u (h : ReadsL u v L) (h' : ReadsL u v' L) => sameAll v v' L L u h h' z3 z3)
  have hzl : ((Z.length : Int) == xs.length) = true := by rw [z2]; simp
  have hg0b : True := trivial
  clear z1 z2 z3 z4 t2 t4 t5
  have HR1 := Lib.hid hr1
  have HR2 := Lib.hid hr2
  have HR3 := Lib.hid hr3
  have K1 : ([] : List Int).length + xs.length ≤ maxLen := by simp [maxLen]; omega
  have K2 : (([] : List Int).length + xs.length) * 1 ≤ 140737488355328 := by simp; omega
  have q13 : al.length ≤ 9223372036854775807 := by unfold maxLen at q12; omega
  have q23 : bl.length ≤ 9223372036854775807 := by unfold maxLen at q22; omega
  clear hr1 hr2 hr3 hok1 hok2 hd1 hd2 hwf he hf hg
  have hx := Below.refl w.heap.size w
  go_enter Try.func5, Try.ntmps5
  go_wp2_with (first
    | (go_at_call 9; have _t := PO1; clear _t; go_must (refine PO1.out.mono ?_; clear PO1; rintro e u ⟨w1, rfl, hw1, hbu⟩; have hx1 := hx.trans (hbu.mono hx.size); clear hx; have hx := hx1; clear hx1; have hl1 := hw1.reads; clear hw1 hbu))
    | (go_at_call 8; have _t := PP1; clear _t; go_must (refine (PP1.out _ _ hl1).mono ?_; clear PP1; rintro e u ⟨w2, rfl, hw2, hbu⟩; have hx1 := hx.trans (hbu.mono hx.size); clear hx; have hx := hx1; clear hx1; obtain ⟨px, cx, rfl, _, _⟩ := shapeN hw2.reads; have hX := hw2.reads; clear hl1 hw2 hbu))
    | (go_at_call 9; have _t := PO2; clear _t; go_must (refine (PO2.out _ (HR2.out.below hx)).mono ?_; clear PO2; rintro e u ⟨w3, rfl, hw3, hbu⟩; have hx1 := hx.trans (hbu.mono hx.size); clear hx; have hx := hx1; clear hx1; have hl1 := hw3.reads; have hX1 := hX.below hbu; clear hX; have hX := hX1; clear hX1; clear hw3 hbu))
    | (go_at_call 8; have _t := PP2; clear _t; go_must (refine (PP2.out _ _ hl1).mono ?_; clear PP2; rintro e u ⟨w4, rfl, hw4, hbu⟩; have hx1 := hx.trans (hbu.mono hx.size); clear hx; have hx := hx1; clear hx1; obtain ⟨py, cy, rfl, _, _⟩ := shapeN hw4.reads; have hY := hw4.reads; have hX1 := hX.below hbu; clear hX; have hX := hX1; clear hX1; clear hl1 hw4 hbu))
    | (go_at_call 11; go_must (refine (answers _).mono ?_; rintro e u ⟨rfl, hbu⟩; have hx1 := hx.trans (hbu.mono hx.size); clear hx; have hx := hx1; clear hx1; have hX1 := hX.below hbu; clear hX; have hX := hX1; clear hX1; have hY1 := hY.below hbu; clear hY; have hY := hY1; clear hY1; clear hbu))
    | ((with_reducible refine wpl_empty rfl 23 5 rfl .u8 (fun _ => by kernel_rfl) ?_); have _t := PG3; clear _t; go_must (intro u hown1 hbu hsu; have HSU := Lib.hid hsu; have hanch := hbu; have hub := hbu.size; clear hsu HSU hbu))
    | (at_builtin; have _t := hown1; clear _t; have _t := PG3; clear _t; go_must (have hsr := (HR3.out.below hx).below hanch; obtain ⟨i0, hi, hz0, hz1, hz2⟩ := info_parts info5; refine wpl_append rfl (.tmp 99) (.tmp 100) 23 rfl .u8 _ 5 1 i0 (.int .u8 0) Try.underlying23 hi hz0 hz1 hz2 rfl _ _ [] xs rfl rfl hown1 hsr K1 K2 hub ?_; clear hi hz0 hz1 hz2; intro v9 u hown2 hgu; rw [List.nil_append] at hown2; have hanch1 := hanch.grown hgu hanch.size (fun q e => (hown1.lt q e).1); have hub1 := Nat.le_trans hub hgu.size; clear hanch hub hsr hown1 hgu; have hanch := hanch1; have hub := hub1; clear hanch1 hub1))
    | (go_at_call 12; have _t := PG3; clear _t; go_must (refine (PG3.out _ _ hown2.reads).mono ?_; clear PG3; rintro e u ⟨w6, rfl, hw6, hbu⟩; have hx1 := hx.trans (hanch.mono hx.size); clear hx; have hx := hx1; clear hx1; clear hanch; clear hown2 hub; have hx1 := hx.trans (hbu.mono hx.size); clear hx; have hx := hx1; clear hx1; have hl3 := hw6.reads; obtain ⟨pl, cl, rfl, _, _⟩ := hl3.shape; clear hw6 hbu))
    | (go_at_call 8; have _t := PP3; clear _t; go_must (refine (PP3.out _ _ hl3).mono ?_; clear PP3; rintro e u ⟨w4, rfl, hw4, hbu⟩; have hx1 := hx.trans (hbu.mono hx.size); clear hx; have hx := hx1; clear hx1; have hl31 := hl3.below hbu; clear hl3; have hl3 := hl31; clear hl31; obtain ⟨pz, cz, rfl, _, _⟩ := shapeN hw4.reads; have hZ := hw4.reads; clear hw4 hbu))
    | (go_at_call 12; have _t := PG4; clear _t; go_must (refine (PG4.out _ _ hZ).mono ?_; clear PG4; rintro e u ⟨w6, rfl, hw6, hbu⟩; have hx1 := hx.trans (hbu.mono hx.size); clear hx; have hx := hx1; clear hx1; have hl31 := hl3.below hbu; clear hl3; have hl3 := hl31; clear hl31; have hl4 := hw6.reads; clear hw6 hbu hZ))
    | (go_at_call 14; have _t := SA3; clear _t; go_must (refine (SA3.out _ _ _ hl3 hl4).mono ?_; clear SA3; rintro e u ⟨rfl, hbu⟩; have hx1 := hx.trans (hbu.mono hx.size); clear hx; have hx := hx1; clear hx1; clear hl3 hl4 hbu)))
  go_ret
  exact ⟨rfl, hx⟩
set_option maxRecDepth 100000 in
set_option maxHeartbeats 800000 in
theorem back_A0 (v v' v2 : Value) (al bl : List A) (xs : List Int) (kk gg : Int) (w : World) (hr1 : ReadsL w v al) (hr2 : ReadsL w v' bl) (hr3 : Reads .u8 w v2 xs) (hok1 : ∀ a ∈ al, a.ok) (hok2 : ∀ a ∈ bl, a.ok) (hd1 : ∀ a ∈ al, a.data.length ≤ 140737488351232) (hd2 : ∀ a ∈ bl, a.data.length ≤ 140737488351232) (hwf : ∀ x ∈ xs, 0 ≤ x ∧ x ≤ 255) (hb : xs.length ≤ 140737488351232) (he : putOf al = ([], 4)) (hf : putOf bl = ([], 4)) (hg : getOf xs = ([], kk, gg)) (hg0 : gg ≠ 0) :
    Calls Try.prog 5 #[v, v', v2] w fun e w' => e = .returned (.bool true) ∧ Below w.heap.size w w' := by
  obtain ⟨p1, c1, rfl, q11, q12⟩ := hr1.shape
  obtain ⟨p2, c2, rfl, q21, q22⟩ := hr2.shape
  obtain ⟨p3, c3, rfl, q31, q32⟩ := shapeN hr3
  have PO1 := Lib.hid (own _ al w hr1 (fun a ha => by have := hd1 a ha; omega))
  have PO2 := Lib.hid (fun u (h : ReadsL u (.slice p2 bl.length c2) bl) => own _ bl u h (fun a ha => by have := hd2 a ha; omega))
  have PP1 := Lib.hid (fun v u (h : ReadsL u v (al.take 200)) => by have := avpPut v (al.take 200) u h (fun a ha => ⟨hok1 a (List.mem_of_mem_take ha), by have := hd1 a (List.mem_of_mem_take ha); omega⟩); rwa [putOf_take, he] at this)
  have PP2 := Lib.hid (fun v u (h : ReadsL u v (bl.take 200)) => by have := avpPut v (bl.take 200) u h (fun a ha => ⟨hok2 a (List.mem_of_mem_take ha), by have := hd2 a (List.mem_of_mem_take ha); omega⟩); rwa [putOf_take, hf] at this)
  have PG3 := Lib.hid (fun v u (h : Reads .u8 u v xs) => by have := avpGet v xs u h hwf; rwa [hg] at this)
  have hg0b : (gg != 0) = true := by simpa using hg0
  have hg0c : (gg == 0) = false := by simpa using hg0
  clear hg0
  have HR1 := Lib.hid hr1
  have HR2 := Lib.hid hr2
  have HR3 := Lib.hid hr3
  have K1 : ([] : List Int).length + xs.length ≤ maxLen := by simp [maxLen]; omega
  have K2 : (([] : List Int).length + xs.length) * 1 ≤ 140737488355328 := by simp; omega
  have q13 : al.length ≤ 9223372036854775807 := by unfold maxLen at q12; omega
  have q23 : bl.length ≤ 9223372036854775807 := by unfold maxLen at q22; omega
  clear hr1 hr2 hr3 hok1 hok2 hd1 hd2 hwf he hf hg
  have hx := Below.refl w.heap.size w
  go_enter Try.func5, Try.ntmps5
  go_wp2_with (first
    | (go_at_call 9; have _t := PO1; clear _t; go_must (refine PO1.out.mono ?_; clear PO1; rintro e u ⟨w1, rfl, hw1, hbu⟩; have hx1 := hx.trans (hbu.mono hx.size); clear hx; have hx := hx1; clear hx1; have hl1 := hw1.reads; clear hw1 hbu))
    | (go_at_call 8; have _t := PP1; clear _t; go_must (refine (PP1.out _ _ hl1).mono ?_; clear PP1; rintro e u ⟨w2, rfl, hw2, hbu⟩; have hx1 := hx.trans (hbu.mono hx.size); clear hx; have hx := hx1; clear hx1; obtain ⟨px, cx, rfl, _, _⟩ := shapeN hw2.reads; have hX := hw2.reads; clear hl1 hw2 hbu))
    | (go_at_call 9; have _t := PO2; clear _t; go_must (refine (PO2.out _ (HR2.out.below hx)).mono ?_; clear PO2; rintro e u ⟨w3, rfl, hw3, hbu⟩; have hx1 := hx.trans (hbu.mono hx.size); clear hx; have hx := hx1; clear hx1; have hl1 := hw3.reads; have hX1 := hX.below hbu; clear hX; have hX := hX1; clear hX1; clear hw3 hbu))
    | (go_at_call 8; have _t := PP2; clear _t; go_must (refine (PP2.out _ _ hl1).mono ?_; clear PP2; rintro e u ⟨w4, rfl, hw4, hbu⟩; have hx1 := hx.trans (hbu.mono hx.size); clear hx; have hx := hx1; clear hx1; obtain ⟨py, cy, rfl, _, _⟩ := shapeN hw4.reads; have hY := hw4.reads; have hX1 := hX.below hbu; clear hX; have hX := hX1; clear hX1; clear hl1 hw4 hbu))
    | (go_at_call 11; go_must (refine (answers _).mono ?_; rintro e u ⟨rfl, hbu⟩; have hx1 := hx.trans (hbu.mono hx.size); clear hx; have hx := hx1; clear hx1; have hX1 := hX.below hbu; clear hX; have hX := hX1; clear hX1; have hY1 := hY.below hbu; clear hY; have hY := hY1; clear hY1; clear hbu))
    | ((with_reducible refine wpl_empty rfl 23 5 rfl .u8 (fun _ => by kernel_rfl) ?_); have _t := PG3; clear _t; go_must (intro u hown1 hbu hsu; have HSU := Lib.hid hsu; have hanch := hbu; have hub := hbu.size; clear hsu HSU hbu))
    | (at_builtin; have _t := hown1; clear _t; have _t := PG3; clear _t; go_must (have hsr := (HR3.out.below hx).below hanch; obtain ⟨i0, hi, hz0, hz1, hz2⟩ := info_parts info5; refine wpl_append rfl (.tmp 99) (.tmp 100) 23 rfl .u8 _ 5 1 i0 (.int .u8 0) Try.underlying23 hi hz0 hz1 hz2 rfl _ _ [] xs rfl rfl hown1 hsr K1 K2 hub ?_; clear hi hz0 hz1 hz2; intro v9 u hown2 hgu; rw [List.nil_append] at hown2; have hanch1 := hanch.grown hgu hanch.size (fun q e => (hown1.lt q e).1); have hub1 := Nat.le_trans hub hgu.size; clear hanch hub hsr hown1 hgu; have hanch := hanch1; have hub := hub1; clear hanch1 hub1))
    | (go_at_call 12; have _t := PG3; clear _t; go_must (refine (PG3.out _ _ hown2.reads).mono ?_; clear PG3; rintro e u ⟨w6, rfl, hw6, hbu⟩; have hx1 := hx.trans (hanch.mono hx.size); clear hx; have hx := hx1; clear hx1; clear hanch; clear hown2 hub; have hx1 := hx.trans (hbu.mono hx.size); clear hx; have hx := hx1; clear hx1; have hl3 := hw6.reads; obtain ⟨pl, cl, rfl, _, _⟩ := hl3.shape; clear hw6 hbu)))
  go_ret
  exact ⟨rfl, hx⟩
set_option maxRecDepth 100000 in
set_option maxHeartbeats 800000 in
theorem back_B1 (v v' v2 : Value) (al bl : List A) (xs : List Int) (X : List Int) (L : List A) (kk : Int) (w : World) (hr1 : ReadsL w v al) (hr2 : ReadsL w v' bl) (hr3 : Reads .u8 w v2 xs) (hok1 : ∀ a ∈ al, a.ok) (hok2 : ∀ a ∈ bl, a.ok) (hd1 : ∀ a ∈ al, a.data.length ≤ 140737488351232) (hd2 : ∀ a ∈ bl, a.data.length ≤ 140737488351232) (hwf : ∀ x ∈ xs, 0 ≤ x ∧ x ≤ 255) (hb : xs.length ≤ 140737488351232) (he : putOf al = (X, 0)) (hf : putOf bl = ([], 4)) (hg : getOf xs = (L, kk, 0)) :
    Calls Try.prog 5 #[v, v', v2] w fun e w' => e = .returned (.bool true) ∧ Below w.heap.size w w' := by
  obtain ⟨p1, c1, rfl, q11, q12⟩ := hr1.shape
  obtain ⟨p2, c2, rfl, q21, q22⟩ := hr2.shape
  obtain ⟨p3, c3, rfl, q31, q32⟩ := shapeN hr3
  have PO1 := Lib.hid (own _ al w hr1 (fun a ha => by have := hd1 a ha; omega))
  have PO2 := Lib.hid (fun u (h : ReadsL u (.slice p2 bl.length c2) bl) => own _ bl u h (fun a ha => by have := hd2 a ha; omega))
  have PP1 := Lib.hid (fun v u (h : ReadsL u v (al.take 200)) => by have := avpPut v (al.take 200) u h (fun a ha => ⟨hok1 a (List.mem_of_mem_take ha), by have := hd1 a (List.mem_of_mem_take ha); omega⟩); rwa [putOf_take, he] at this)
  have PP2 := Lib.hid (fun v u (h : ReadsL u v (bl.take 200)) => by have := avpPut v (bl.take 200) u h (fun a ha => ⟨hok2 a (List.mem_of_mem_take ha), by have := hd2 a (List.mem_of_mem_take ha); omega⟩); rwa [putOf_take, hf] at this)
  obtain ⟨x1, x2, x3, x4, x5⟩ := put_ok he hok1
  have PG1 := Lib.hid (fun v u (h : Reads .u8 u v X) => by have := avpGet v X u h x4; rwa [x5] at this)
  have SA1 := Lib.hid (fun v v' u (h : ReadsL u v al) (h' : ReadsL u v' al) => sameAll v v' al al u h h' hok1 hok1)
  have PG3 := Lib.hid (fun v u (h : Reads .u8 u v xs) => by have := avpGet v xs u h hwf; rwa [hg] at this)
  obtain ⟨Z, z1, z2, z3, z4⟩ := got_ok hwf hg
  obtain ⟨t1, t2, t3, t4, t5⟩ := put_ok z1 z3
  have PP3 := Lib.hid (fun v u (h : ReadsL u v L) => by have := avpPut v L u h (fun a ha => ⟨z3 a ha, by have := z4 a ha; omega⟩); rwa [z1] at this)
  have PG4 := Lib.hid (fun v u (h : Reads .u8 u v Z) => by have := avpGet v Z u h t4; rwa [t5] at this)
  have SA3 := Lib.hid (fun v v' u (h : ReadsL u v L) (h' : ReadsL u v' L) => sameAll v v' L L u h h' z3 z3)
  have hzl : ((Z.length : Int) == xs.length) = true := by rw [z2]; simp
  have hg0b : True := trivial
  clear z1 z2 z3 z4 t2 t4 t5
  have HR1 := Lib.hid hr1
  have HR2 := Lib.hid hr2
  have HR3 := Lib.hid hr3
  have K1 : ([] : List Int).length + xs.length ≤ maxLen := by simp [maxLen]; omega
  have K2 : (([] : List Int).length + xs.length) * 1 ≤ 140737488355328 := by simp; omega
  have q13 : al.length ≤ 9223372036854775807 := by unfold maxLen at q12; omega
  have q23 : bl.length ≤ 9223372036854775807 := by unfold maxLen at q22; omega
  have hxl : (X.length : Int) ≤ 4096 := by omega
  clear hr1 hr2 hr3 hok1 hok2 hd1 hd2 hwf he hf hg x2 x4 x5
  have hx := Below.refl w.heap.size w
  go_enter Try.func5, Try.ntmps5
  go_wp2_with (first
    | (go_at_call 9; have _t := PO1; clear _t; go_must (refine PO1.out.mono ?_; clear PO1; rintro e u ⟨w1, rfl, hw1, hbu⟩; have hx1 := hx.trans (hbu.mono hx.size); clear hx; have hx := hx1; clear hx1; have hl1 := hw1.reads; clear hw1 hbu))
    | (go_at_call 8; have _t := PP1; clear _t; go_must (refine (PP1.out _ _ hl1).mono ?_; clear PP1; rintro e u ⟨w2, rfl, hw2, hbu⟩; have hx1 := hx.trans (hbu.mono hx.size); clear hx; have hx := hx1; clear hx1; obtain ⟨px, cx, rfl, _, _⟩ := shapeN hw2.reads; have hX := hw2.reads; clear hl1 hw2 hbu))
    | (go_at_call 9; have _t := PO2; clear _t; go_must (refine (PO2.out _ (HR2.out.below hx)).mono ?_; clear PO2; rintro e u ⟨w3, rfl, hw3, hbu⟩; have hx1 := hx.trans (hbu.mono hx.size); clear hx; have hx := hx1; clear hx1; have hl1 := hw3.reads; have hX1 := hX.below hbu; clear hX; have hX := hX1; clear hX1; clear hw3 hbu))
    | (go_at_call 8; have _t := PP2; clear _t; go_must (refine (PP2.out _ _ hl1).mono ?_; clear PP2; rintro e u ⟨w4, rfl, hw4, hbu⟩; have hx1 := hx.trans (hbu.mono hx.size); clear hx; have hx := hx1; clear hx1; obtain ⟨py, cy, rfl, _, _⟩ := shapeN hw4.reads; have hY := hw4.reads; have hX1 := hX.below hbu; clear hX; have hX := hX1; clear hX1; clear hl1 hw4 hbu))
    | (go_at_call 11; go_must (refine (answers _).mono ?_; rintro e u ⟨rfl, hbu⟩; have hx1 := hx.trans (hbu.mono hx.size); clear hx; have hx := hx1; clear hx1; have hX1 := hX.below hbu; clear hX; have hX := hX1; clear hX1; have hY1 := hY.below hbu; clear hY; have hY := hY1; clear hY1; clear hbu))
    | (go_at_call 12; have _t := PG1; clear _t; go_must (refine (PG1.out _ _ hX).mono ?_; clear PG1; rintro e u ⟨w6, rfl, hw6, hbu⟩; have hx1 := hx.trans (hbu.mono hx.size); clear hx; have hx := hx1; clear hx1; have hX1 := hX.below hbu; clear hX; have hX := hX1; clear hX1; have hY1 := hY.below hbu; clear hY; have hY := hY1; clear hY1; have hl1 := hw6.reads; obtain ⟨pg, cg, rfl, _, _⟩ := hl1.shape; clear hw6 hbu))
    | (go_at_call 14; have _t := SA1; clear _t; go_must (refine (SA1.out _ _ _ hl1 (HR1.out.below hx)).mono ?_; clear SA1; rintro e u ⟨rfl, hbu⟩; have hx1 := hx.trans (hbu.mono hx.size); clear hx; have hx := hx1; clear hx1; have hX1 := hX.below hbu; clear hX; have hX := hX1; clear hX1; have hY1 := hY.below hbu; clear hY; have hY := hY1; clear hY1; clear hl1 hbu))
    | ((with_reducible refine wpl_empty rfl 23 5 rfl .u8 (fun _ => by kernel_rfl) ?_); have _t := PG3; clear _t; go_must (intro u hown1 hbu hsu; have HSU := Lib.hid hsu; have hanch := hbu; have hub := hbu.size; clear hsu HSU hbu))
    | (at_builtin; have _t := hown1; clear _t; have _t := PG3; clear _t; go_must (have hsr := (HR3.out.below hx).below hanch; obtain ⟨i0, hi, hz0, hz1, hz2⟩ := info_parts info5; refine wpl_append rfl (.tmp 99) (.tmp 100) 23 rfl .u8 _ 5 1 i0 (.int .u8 0) Try.underlying23 hi hz0 hz1 hz2 rfl _ _ [] xs rfl rfl hown1 hsr K1 K2 hub ?_; clear hi hz0 hz1 hz2; intro v9 u hown2 hgu; rw [List.nil_append] at hown2; have hanch1 := hanch.grown hgu hanch.size (fun q e => (hown1.lt q e).1); have hub1 := Nat.le_trans hub hgu.size; clear hanch hub hsr hown1 hgu; have hanch := hanch1; have hub := hub1; clear hanch1 hub1))
    | (go_at_call 12; have _t := PG3; clear _t; go_must (refine (PG3.out _ _ hown2.reads).mono ?_; clear PG3; rintro e u ⟨w6, rfl, hw6, hbu⟩; have hx1 := hx.trans (hanch.mono hx.size); clear hx; have hx := hx1; clear hx1; clear hanch; clear hown2 hub; have hx1 := hx.trans (hbu.mono hx.size); clear hx; have hx := hx1; clear hx1; have hl3 := hw6.reads; obtain ⟨pl, cl, rfl, _, _⟩ := hl3.shape; clear hw6 hbu))
    | (go_at_call 8; have _t := PP3; clear _t; go_must (refine (PP3.out _ _ hl3).mono ?_; clear PP3; rintro e u ⟨w4, rfl, hw4, hbu⟩; have hx1 := hx.trans (hbu.mono hx.size); clear hx; have hx := hx1; clear hx1; have hl31 := hl3.below hbu; clear hl3; have hl3 := hl31; clear hl31; obtain ⟨pz, cz, rfl, _, _⟩ := shapeN hw4.reads; have hZ := hw4.reads; clear hw4 hbu))
    | (go_at_call 12; have _t := PG4; clear _t; go_must (refine (PG4.out _ _ hZ).mono ?_; clear PG4; rintro e u ⟨w6, rfl, hw6, hbu⟩; have hx1 := hx.trans (hbu.mono hx.size); clear hx; have hx := hx1; clear hx1; have hl31 := hl3.below hbu; clear hl3; have hl3 := hl31; clear hl31; have hl4 := hw6.reads; clear hw6 hbu hZ))
    | (go_at_call 14; have _t := SA3; clear _t; go_must (refine (SA3.out _ _ _ hl3 hl4).mono ?_; clear SA3; rintro e u ⟨rfl, hbu⟩; have hx1 := hx.trans (hbu.mono hx.size); clear hx; have hx := hx1; clear hx1; clear hl3 hl4 hbu)))
  go_ret
  exact ⟨rfl, hx⟩
set_option maxRecDepth 100000 in
set_option maxHeartbeats 800000 in
theorem back_B0 (v v' v2 : Value) (al bl : List A) (xs : List Int) (X : List Int) (kk gg : Int) (w : World) (hr1 : ReadsL w v al) (hr2 : ReadsL w v' bl) (hr3 : Reads .u8 w v2 xs) (hok1 : ∀ a ∈ al, a.ok) (hok2 : ∀ a ∈ bl, a.ok) (hd1 : ∀ a ∈ al, a.data.length ≤ 140737488351232) (hd2 : ∀ a ∈ bl, a.data.length ≤ 140737488351232) (hwf : ∀ x ∈ xs, 0 ≤ x ∧ x ≤ 255) (hb : xs.length ≤ 140737488351232) (he : putOf al = (X, 0)) (hf : putOf bl = ([], 4)) (hg : getOf xs = ([], kk, gg)) (hg0 : gg ≠ 0) :
    Calls Try.prog 5 #[v, v', v2] w fun e w' => e = .returned (.bool true) ∧ Below w.heap.size w w' := by
  obtain ⟨p1, c1, rfl, q11, q12⟩ := hr1.shape
  obtain ⟨p2, c2, rfl, q21, q22⟩ := hr2.shape
  obtain ⟨p3, c3, rfl, q31, q32⟩ := shapeN hr3
  have PO1 := Lib.hid (own _ al w hr1 (fun a ha => by have := hd1 a ha; omega))
  have PO2 := Lib.hid (fun u (h : ReadsL u (.slice p2 bl.length c2) bl) => own _ bl u h (fun a ha => by have := hd2 a ha; omega))
  have PP1 := Lib.hid (fun v u (h : ReadsL u v (al.take 200)) => by have := avpPut v (al.take 200) u h (fun a ha => ⟨hok1 a (List.mem_of_mem_take ha), by have := hd1 a (List.mem_of_mem_take ha); omega⟩); rwa [putOf_take, he] at this)
  have PP2 := Lib.hid (fun v u (h : ReadsL u v (bl.take 200)) => by have := avpPut v (bl.take 200) u h (fun a ha => ⟨hok2 a (List.mem_of_mem_take ha), by have := hd2 a (List.mem_of_mem_take ha); omega⟩); rwa [putOf_take, hf] at this)
  obtain ⟨x1, x2, x3, x4, x5⟩ := put_ok he hok1
  have PG1 := Lib.hid (fun v u (h : Reads .u8 u v X) => by have := avpGet v X u h x4; rwa [x5] at this)
  have SA1 := Lib.hid (fun v v' u (h : ReadsL u v al) (h' : ReadsL u v' al) => sameAll v v' al al u h h' hok1 hok1)
  have PG3 := Lib.hid (fun v u (h : Reads .u8 u v xs) => by have := avpGet v xs u h hwf; rwa [hg] at this)
  have hg0b : (gg != 0) = true := by simpa using hg0
  have hg0c : (gg == 0) = false := by simpa using hg0
  clear hg0
  have HR1 := Lib.hid hr1
  have HR2 := Lib.hid hr2
  have HR3 := Lib.hid hr3
  have K1 : ([] : List Int).length + xs.length ≤ maxLen := by simp [maxLen]; omega
  have K2 : (([] : List Int).length + xs.length) * 1 ≤ 140737488355328 := by simp; omega
  have q13 : al.length ≤ 9223372036854775807 := by unfold maxLen at q12; omega
  have q23 : bl.length ≤ 9223372036854775807 := by unfold maxLen at q22; omega
  have hxl : (X.length : Int) ≤ 4096 := by omega
  clear hr1 hr2 hr3 hok1 hok2 hd1 hd2 hwf he hf hg x2 x4 x5
  have hx := Below.refl w.heap.size w
  go_enter Try.func5, Try.ntmps5
  go_wp2_with (first
    | (go_at_call 9; have _t := PO1; clear _t; go_must (refine PO1.out.mono ?_; clear PO1; rintro e u ⟨w1, rfl, hw1, hbu⟩; have hx1 := hx.trans (hbu.mono hx.size); clear hx; have hx := hx1; clear hx1; have hl1 := hw1.reads; clear hw1 hbu))
    | (go_at_call 8; have _t := PP1; clear _t; go_must (refine (PP1.out _ _ hl1).mono ?_; clear PP1; rintro e u ⟨w2, rfl, hw2, hbu⟩; have hx1 := hx.trans (hbu.mono hx.size); clear hx; have hx := hx1; clear hx1; obtain ⟨px, cx, rfl, _, _⟩ := shapeN hw2.reads; have hX := hw2.reads; clear hl1 hw2 hbu))
    | (go_at_call 9; have _t := PO2; clear _t; go_must (refine (PO2.out _ (HR2.out.below hx)).mono ?_; clear PO2; rintro e u ⟨w3, rfl, hw3, hbu⟩; have hx1 := hx.trans (hbu.mono hx.size); clear hx; have hx := hx1; clear hx1; have hl1 := hw3.reads; have hX1 := hX.below hbu; clear hX; have hX := hX1; clear hX1; clear hw3 hbu))
    | (go_at_call 8; have _t := PP2; clear _t; go_must (refine (PP2.out _ _ hl1).mono ?_; clear PP2; rintro e u ⟨w4, rfl, hw4, hbu⟩; have hx1 := hx.trans (hbu.mono hx.size); clear hx; have hx := hx1; clear hx1; obtain ⟨py, cy, rfl, _, _⟩ := shapeN hw4.reads; have hY := hw4.reads; have hX1 := hX.below hbu; clear hX; have hX := hX1; clear hX1; clear hl1 hw4 hbu))
    | (go_at_call 11; go_must (refine (answers _).mono ?_; rintro e u ⟨rfl, hbu⟩; have hx1 := hx.trans (hbu.mono hx.size); clear hx; have hx := hx1; clear hx1; have hX1 := hX.below hbu; clear hX; have hX := hX1; clear hX1; have hY1 := hY.below hbu; clear hY; have hY := hY1; clear hY1; clear hbu))
    | (go_at_call 12; have _t := PG1; clear _t; go_must (refine (PG1.out _ _ hX).mono ?_; clear PG1; rintro e u ⟨w6, rfl, hw6, hbu⟩; have hx1 := hx.trans (hbu.mono hx.size); clear hx; have hx := hx1; clear hx1; have hX1 := hX.below hbu; clear hX; have hX := hX1; clear hX1; have hY1 := hY.below hbu; clear hY; have hY := hY1; clear hY1; have hl1 := hw6.reads; obtain ⟨pg, cg, rfl, _, _⟩ := hl1.shape; clear hw6 hbu))
    | (go_at_call 14; have _t := SA1; clear _t; go_must (refine (SA1.out _ _ _ hl1 (HR1.out.below hx)).mono ?_; clear SA1; rintro e u ⟨rfl, hbu⟩; have hx1 := hx.trans (hbu.mono hx.size); clear hx; have hx := hx1; clear hx1; have hX1 := hX.below hbu; clear hX; have hX := hX1; clear hX1; have hY1 := hY.below hbu; clear hY; have hY := hY1; clear hY1; clear hl1 hbu))
    | ((with_reducible refine wpl_empty rfl 23 5 rfl .u8 (fun _ => by kernel_rfl) ?_); have _t := PG3; clear _t; go_must (intro u hown1 hbu hsu; have HSU := Lib.hid hsu; have hanch := hbu; have hub := hbu.size; clear hsu HSU hbu))
    | (at_builtin; have _t := hown1; clear _t; have _t := PG3; clear _t; go_must (have hsr := (HR3.out.below hx).below hanch; obtain ⟨i0, hi, hz0, hz1, hz2⟩ := info_parts info5; refine wpl_append rfl (.tmp 99) (.tmp 100) 23 rfl .u8 _ 5 1 i0 (.int .u8 0) Try.underlying23 hi hz0 hz1 hz2 rfl _ _ [] xs rfl rfl hown1 hsr K1 K2 hub ?_; clear hi hz0 hz1 hz2; intro v9 u hown2 hgu; rw [List.nil_append] at hown2; have hanch1 := hanch.grown hgu hanch.size (fun q e => (hown1.lt q e).1); have hub1 := Nat.le_trans hub hgu.size; clear hanch hub hsr hown1 hgu; have hanch := hanch1; have hub := hub1; clear hanch1 hub1))
    | (go_at_call 12; have _t := PG3; clear _t; go_must (refine (PG3.out _ _ hown2.reads).mono ?_; clear PG3; rintro e u ⟨w6, rfl, hw6, hbu⟩; have hx1 := hx.trans (hanch.mono hx.size); clear hx; have hx := hx1; clear hx1; clear hanch; clear hown2 hub; have hx1 := hx.trans (hbu.mono hx.size); clear hx; have hx := hx1; clear hx1; have hl3 := hw6.reads; obtain ⟨pl, cl, rfl, _, _⟩ := hl3.shape; clear hw6 hbu)))
  go_ret
  exact ⟨rfl, hx⟩
set_option maxRecDepth 100000 in
set_option maxHeartbeats 800000 in
theorem back_C1 (v v' v2 : Value) (al bl : List A) (xs : List Int) (X : List Int) (Y : List Int) (L : List A) (kk : Int) (w : World) (hr1 : ReadsL w v al) (hr2 : ReadsL w v' bl) (hr3 : Reads .u8 w v2 xs) (hok1 : ∀ a ∈ al, a.ok) (hok2 : ∀ a ∈ bl, a.ok) (hd1 : ∀ a ∈ al, a.data.length ≤ 140737488351232) (hd2 : ∀ a ∈ bl, a.data.length ≤ 140737488351232) (hwf : ∀ x ∈ xs, 0 ≤ x ∧ x ≤ 255) (hb : xs.length ≤ 140737488351232) (he : putOf al = (X, 0)) (hf : putOf bl = (Y, 0)) (hs : 64 < al.length + bl.length) (hg : getOf xs = (L, kk, 0)) :
    Calls Try.prog 5 #[v, v', v2] w fun e w' => e = .returned (.bool true) ∧ Below w.heap.size w w' := by
  obtain ⟨p1, c1, rfl, q11, q12⟩ := hr1.shape
  obtain ⟨p2, c2, rfl, q21, q22⟩ := hr2.shape
  obtain ⟨p3, c3, rfl, q31, q32⟩ := shapeN hr3
  have PO1 := Lib.hid (own _ al w hr1 (fun a ha => by have := hd1 a ha; omega))
  have PO2 := Lib.hid (fun u (h : ReadsL u (.slice p2 bl.length c2) bl) => own _ bl u h (fun a ha => by have := hd2 a ha; omega))
  have PP1 := Lib.hid (fun v u (h : ReadsL u v (al.take 200)) => by have := avpPut v (al.take 200) u h (fun a ha => ⟨hok1 a (List.mem_of_mem_take ha), by have := hd1 a (List.mem_of_mem_take ha); omega⟩); rwa [putOf_take, he] at this)
  have PP2 := Lib.hid (fun v u (h : ReadsL u v (bl.take 200)) => by have := avpPut v (bl.take 200) u h (fun a ha => ⟨hok2 a (List.mem_of_mem_take ha), by have := hd2 a (List.mem_of_mem_take ha); omega⟩); rwa [putOf_take, hf] at this)
  obtain ⟨x1, x2, x3, x4, x5⟩ := put_ok he hok1
  have PG1 := Lib.hid (fun v u (h : Reads .u8 u v X) => by have := avpGet v X u h x4; rwa [x5] at this)
  have SA1 := Lib.hid (fun v v' u (h : ReadsL u v al) (h' : ReadsL u v' al) => sameAll v v' al al u h h' hok1 hok1)
  obtain ⟨y1, y2, y3, y4, y5⟩ := put_ok hf hok2
  have PG3 := Lib.hid (fun v u (h : Reads .u8 u v xs) => by have := avpGet v xs u h hwf; rwa [hg] at this)
  obtain ⟨Z, z1, z2, z3, z4⟩ := got_ok hwf hg
  obtain ⟨t1, t2, t3, t4, t5⟩ := put_ok z1 z3
  have PP3 := Lib.hid (fun v u (h : ReadsL u v L) => by have := avpPut v L u h (fun a ha => ⟨z3 a ha, by have := z4 a ha; omega⟩); rwa [z1] at this)
  have PG4 := Lib.hid (fun v u (h : Reads .u8 u v Z) => by have := avpGet v Z u h t4; rwa [t5] at this)
  have SA3 := Lib.hid (fun v v' u (h : ReadsL u v L) (h' : ReadsL u v' L) => sameAll v v' L L u h h' z3 z3)
  have hzl : ((Z.length : Int) == xs.length) = true := by rw [z2]; simp
  have hg0b : True := trivial
  clear z1 z2 z3 z4 t2 t4 t5
  have HR1 := Lib.hid hr1
  have HR2 := Lib.hid hr2
  have HR3 := Lib.hid hr3
  have K1 : ([] : List Int).length + xs.length ≤ maxLen := by simp [maxLen]; omega
  have K2 : (([] : List Int).length + xs.length) * 1 ≤ 140737488355328 := by simp; omega
  have q13 : al.length ≤ 9223372036854775807 := by unfold maxLen at q12; omega
  have q23 : bl.length ≤ 9223372036854775807 := by unfold maxLen at q22; omega
  have hxl : (X.length : Int) ≤ 4096 := by omega
  have hyl : (Y.length : Int) ≤ 4096 := by omega
  clear hr1 hr2 hr3 hok1 hok2 hd1 hd2 hwf he hf hg x2 x4 x5 y2 y4 y5
  have hx := Below.refl w.heap.size w
  go_enter Try.func5, Try.ntmps5
  go_wp2_with (first
    | (go_at_call 9; have _t := PO1; clear _t; go_must (refine PO1.out.mono ?_; clear PO1; rintro e u ⟨w1, rfl, hw1, hbu⟩; have hx1 := hx.trans (hbu.mono hx.size); clear hx; have hx := hx1; clear hx1; have hl1 := hw1.reads; clear hw1 hbu))
    | (go_at_call 8; have _t := PP1; clear _t; go_must (refine (PP1.out _ _ hl1).mono ?_; clear PP1; rintro e u ⟨w2, rfl, hw2, hbu⟩; have hx1 := hx.trans (hbu.mono hx.size); clear hx; have hx := hx1; clear hx1; obtain ⟨px, cx, rfl, _, _⟩ := shapeN hw2.reads; have hX := hw2.reads; clear hl1 hw2 hbu))
    | (go_at_call 9; have _t := PO2; clear _t; go_must (refine (PO2.out _ (HR2.out.below hx)).mono ?_; clear PO2; rintro e u ⟨w3, rfl, hw3, hbu⟩; have hx1 := hx.trans (hbu.mono hx.size); clear hx; have hx := hx1; clear hx1; have hl1 := hw3.reads; have hX1 := hX.below hbu; clear hX; have hX := hX1; clear hX1; clear hw3 hbu))
    | (go_at_call 8; have _t := PP2; clear _t; go_must (refine (PP2.out _ _ hl1).mono ?_; clear PP2; rintro e u ⟨w4, rfl, hw4, hbu⟩; have hx1 := hx.trans (hbu.mono hx.size); clear hx; have hx := hx1; clear hx1; obtain ⟨py, cy, rfl, _, _⟩ := shapeN hw4.reads; have hY := hw4.reads; have hX1 := hX.below hbu; clear hX; have hX := hX1; clear hX1; clear hl1 hw4 hbu))
    | (go_at_call 11; go_must (refine (answers _).mono ?_; rintro e u ⟨rfl, hbu⟩; have hx1 := hx.trans (hbu.mono hx.size); clear hx; have hx := hx1; clear hx1; have hX1 := hX.below hbu; clear hX; have hX := hX1; clear hX1; have hY1 := hY.below hbu; clear hY; have hY := hY1; clear hY1; clear hbu))
    | (go_at_call 12; have _t := PG1; clear _t; go_must (refine (PG1.out _ _ hX).mono ?_; clear PG1; rintro e u ⟨w6, rfl, hw6, hbu⟩; have hx1 := hx.trans (hbu.mono hx.size); clear hx; have hx := hx1; clear hx1; have hX1 := hX.below hbu; clear hX; have hX := hX1; clear hX1; have hY1 := hY.below hbu; clear hY; have hY := hY1; clear hY1; have hl1 := hw6.reads; obtain ⟨pg, cg, rfl, _, _⟩ := hl1.shape; clear hw6 hbu))
    | (go_at_call 14; have _t := SA1; clear _t; go_must (refine (SA1.out _ _ _ hl1 (HR1.out.below hx)).mono ?_; clear SA1; rintro e u ⟨rfl, hbu⟩; have hx1 := hx.trans (hbu.mono hx.size); clear hx; have hx := hx1; clear hx1; have hX1 := hX.below hbu; clear hX; have hX := hX1; clear hX1; have hY1 := hY.below hbu; clear hY; have hY := hY1; clear hY1; clear hl1 hbu))
    | ((with_reducible refine wpl_empty rfl 23 5 rfl .u8 (fun _ => by kernel_rfl) ?_); have _t := PG3; clear _t; go_must (intro u hown1 hbu hsu; have HSU := Lib.hid hsu; have hanch := hbu; have hub := hbu.size; clear hsu HSU hbu))
    | (at_builtin; have _t := hown1; clear _t; have _t := PG3; clear _t; go_must (have hsr := (HR3.out.below hx).below hanch; obtain ⟨i0, hi, hz0, hz1, hz2⟩ := info_parts info5; refine wpl_append rfl (.tmp 99) (.tmp 100) 23 rfl .u8 _ 5 1 i0 (.int .u8 0) Try.underlying23 hi hz0 hz1 hz2 rfl _ _ [] xs rfl rfl hown1 hsr K1 K2 hub ?_; clear hi hz0 hz1 hz2; intro v9 u hown2 hgu; rw [List.nil_append] at hown2; have hanch1 := hanch.grown hgu hanch.size (fun q e => (hown1.lt q e).1); have hub1 := Nat.le_trans hub hgu.size; clear hanch hub hsr hown1 hgu; have hanch := hanch1; have hub := hub1; clear hanch1 hub1))
    | (go_at_call 12; have _t := PG3; clear _t; go_must (refine (PG3.out _ _ hown2.reads).mono ?_; clear PG3; rintro e u ⟨w6, rfl, hw6, hbu⟩; have hx1 := hx.trans (hanch.mono hx.size); clear hx; have hx := hx1; clear hx1; clear hanch; clear hown2 hub; have hx1 := hx.trans (hbu.mono hx.size); clear hx; have hx := hx1; clear hx1; have hl3 := hw6.reads; obtain ⟨pl, cl, rfl, _, _⟩ := hl3.shape; clear hw6 hbu))
    | (go_at_call 8; have _t := PP3; clear _t; go_must (refine (PP3.out _ _ hl3).mono ?_; clear PP3; rintro e u ⟨w4, rfl, hw4, hbu⟩; have hx1 := hx.trans (hbu.mono hx.size); clear hx; have hx := hx1; clear hx1; have hl31 := hl3.below hbu; clear hl3; have hl3 := hl31; clear hl31; obtain ⟨pz, cz, rfl, _, _⟩ := shapeN hw4.reads; have hZ := hw4.reads; clear hw4 hbu))
    | (go_at_call 12; have _t := PG4; clear _t; go_must (refine (PG4.out _ _ hZ).mono ?_; clear PG4; rintro e u ⟨w6, rfl, hw6, hbu⟩; have hx1 := hx.trans (hbu.mono hx.size); clear hx; have hx := hx1; clear hx1; have hl31 := hl3.below hbu; clear hl3; have hl3 := hl31; clear hl31; have hl4 := hw6.reads; clear hw6 hbu hZ))
    | (go_at_call 14; have _t := SA3; clear _t; go_must (refine (SA3.out _ _ _ hl3 hl4).mono ?_; clear SA3; rintro e u ⟨rfl, hbu⟩; have hx1 := hx.trans (hbu.mono hx.size); clear hx; have hx := hx1; clear hx1; clear hl3 hl4 hbu)))
  go_ret
  exact ⟨rfl, hx⟩
set_option maxRecDepth 100000 in
set_option maxHeartbeats 800000 in
theorem back_C0 (v v' v2 : Value) (al bl : List A) (xs : List Int) (X : List Int) (Y : List Int) (kk gg : Int) (w : World) (hr1 : ReadsL w v al) (hr2 : ReadsL w v' bl) (hr3 : Reads .u8 w v2 xs) (hok1 : ∀ a ∈ al, a.ok) (hok2 : ∀ a ∈ bl, a.ok) (hd1 : ∀ a ∈ al, a.data.length ≤ 140737488351232) (hd2 : ∀ a ∈ bl, a.data.length ≤ 140737488351232) (hwf : ∀ x ∈ xs, 0 ≤ x ∧ x ≤ 255) (hb : xs.length ≤ 140737488351232) (he : putOf al = (X, 0)) (hf : putOf bl = (Y, 0)) (hs : 64 < al.length + bl.length) (hg : getOf xs = ([], kk, gg)) (hg0 : gg ≠ 0) :
    Calls Try.prog 5 #[v, v', v2] w fun e w' => e = .returned (.bool true) ∧ Below w.heap.size w w' := by
  obtain ⟨p1, c1, rfl, q11, q12⟩ := hr1.shape
  obtain ⟨p2, c2, rfl, q21, q22⟩ := hr2.shape
  obtain ⟨p3, c3, rfl, q31, q32⟩ := shapeN hr3
  have PO1 := Lib.hid (own _ al w hr1 (fun a ha => by have := hd1 a ha; omega))
  have PO2 := Lib.hid (fun u (h : ReadsL u (.slice p2 bl.length c2) bl) => own _ bl u h (fun a ha => by have := hd2 a ha; omega))
  have PP1 := Lib.hid (fun v u (h : ReadsL u v (al.take 200)) => by have := avpPut v (al.take 200) u h (fun a ha => ⟨hok1 a (List.mem_of_mem_take ha), by have := hd1 a (List.mem_of_mem_take ha); omega⟩); rwa [putOf_take, he] at this)
  have PP2 := Lib.hid (fun v u (h : ReadsL u v (bl.take 200)) => by have := avpPut v (bl.take 200) u h (fun a ha => ⟨hok2 a (List.mem_of_mem_take ha), by have := hd2 a (List.mem_of_mem_take ha); omega⟩); rwa [putOf_take, hf] at this)
  obtain ⟨x1, x2, x3, x4, x5⟩ := put_ok he hok1
  have PG1 := Lib.hid (fun v u (h : Reads .u8 u v X) => by have := avpGet v X u h x4; rwa [x5] at this)
  have SA1 := Lib.hid (fun v v' u (h : ReadsL u v al) (h' : ReadsL u v' al) => sameAll v v' al al u h h' hok1 hok1)
  obtain ⟨y1, y2, y3, y4, y5⟩ := put_ok hf hok2
  have PG3 := Lib.hid (fun v u (h : Reads .u8 u v xs) => by have := avpGet v xs u h hwf; rwa [hg] at this)
  have hg0b : (gg != 0) = true := by simpa using hg0
  have hg0c : (gg == 0) = false := by simpa using hg0
  clear hg0
  have HR1 := Lib.hid hr1
  have HR2 := Lib.hid hr2
  have HR3 := Lib.hid hr3
  have K1 : ([] : List Int).length + xs.length ≤ maxLen := by simp [maxLen]; omega
  have K2 : (([] : List Int).length + xs.length) * 1 ≤ 140737488355328 := by simp; omega
  have q13 : al.length ≤ 9223372036854775807 := by unfold maxLen at q12; omega
  have q23 : bl.length ≤ 9223372036854775807 := by unfold maxLen at q22; omega
  have hxl : (X.length : Int) ≤ 4096 := by omega
  have hyl : (Y.length : Int) ≤ 4096 := by omega
  clear hr1 hr2 hr3 hok1 hok2 hd1 hd2 hwf he hf hg x2 x4 x5 y2 y4 y5
  have hx := Below.refl w.heap.size w
  go_enter Try.func5, Try.ntmps5
  go_wp2_with (first
    | (go_at_call 9; have _t := PO1; clear _t; go_must (refine PO1.out.mono ?_; clear PO1; rintro e u ⟨w1, rfl, hw1, hbu⟩; have hx1 := hx.trans (hbu.mono hx.size); clear hx; have hx := hx1; clear hx1; have hl1 := hw1.reads; clear hw1 hbu))
    | (go_at_call 8; have _t := PP1; clear _t; go_must (refine (PP1.out _ _ hl1).mono ?_; clear PP1; rintro e u ⟨w2, rfl, hw2, hbu⟩; have hx1 := hx.trans (hbu.mono hx.size); clear hx; have hx := hx1; clear hx1; obtain ⟨px, cx, rfl, _, _⟩ := shapeN hw2.reads; have hX := hw2.reads; clear hl1 hw2 hbu))
    | (go_at_call 9; have _t := PO2; clear _t; go_must (refine (PO2.out _ (HR2.out.below hx)).mono ?_; clear PO2; rintro e u ⟨w3, rfl, hw3, hbu⟩; have hx1 := hx.trans (hbu.mono hx.size); clear hx; have hx := hx1; clear hx1; have hl1 := hw3.reads; have hX1 := hX.below hbu; clear hX; have hX := hX1; clear hX1; clear hw3 hbu))
    | (go_at_call 8; have _t := PP2; clear _t; go_must (refine (PP2.out _ _ hl1).mono ?_; clear PP2; rintro e u ⟨w4, rfl, hw4, hbu⟩; have hx1 := hx.trans (hbu.mono hx.size); clear hx; have hx := hx1; clear hx1; obtain ⟨py, cy, rfl, _, _⟩ := shapeN hw4.reads; have hY := hw4.reads; have hX1 := hX.below hbu; clear hX; have hX := hX1; clear hX1; clear hl1 hw4 hbu))
    | (go_at_call 11; go_must (refine (answers _).mono ?_; rintro e u ⟨rfl, hbu⟩; have hx1 := hx.trans (hbu.mono hx.size); clear hx; have hx := hx1; clear hx1; have hX1 := hX.below hbu; clear hX; have hX := hX1; clear hX1; have hY1 := hY.below hbu; clear hY; have hY := hY1; clear hY1; clear hbu))
    | (go_at_call 12; have _t := PG1; clear _t; go_must (refine (PG1.out _ _ hX).mono ?_; clear PG1; rintro e u ⟨w6, rfl, hw6, hbu⟩; have hx1 := hx.trans (hbu.mono hx.size); clear hx; have hx := hx1; clear hx1; have hX1 := hX.below hbu; clear hX; have hX := hX1; clear hX1; have hY1 := hY.below hbu; clear hY; have hY := hY1; clear hY1; have hl1 := hw6.reads; obtain ⟨pg, cg, rfl, _, _⟩ := hl1.shape; clear hw6 hbu))
    | (go_at_call 14; have _t := SA1; clear _t; go_must (refine (SA1.out _ _ _ hl1 (HR1.out.below hx)).mono ?_; clear SA1; rintro e u ⟨rfl, hbu⟩; have hx1 := hx.trans (hbu.mono hx.size); clear hx; have hx := hx1; clear hx1; have hX1 := hX.below hbu; clear hX; have hX := hX1; clear hX1; have hY1 := hY.below hbu; clear hY; have hY := hY1; clear hY1; clear hl1 hbu))
    | ((with_reducible refine wpl_empty rfl 23 5 rfl .u8 (fun _ => by kernel_rfl) ?_); have _t := PG3; clear _t; go_must (intro u hown1 hbu hsu; have HSU := Lib.hid hsu; have hanch := hbu; have hub := hbu.size; clear hsu HSU hbu))
    | (at_builtin; have _t := hown1; clear _t; have _t := PG3; clear _t; go_must (have hsr := (HR3.out.below hx).below hanch; obtain ⟨i0, hi, hz0, hz1, hz2⟩ := info_parts info5; refine wpl_append rfl (.tmp 99) (.tmp 100) 23 rfl .u8 _ 5 1 i0 (.int .u8 0) Try.underlying23 hi hz0 hz1 hz2 rfl _ _ [] xs rfl rfl hown1 hsr K1 K2 hub ?_; clear hi hz0 hz1 hz2; intro v9 u hown2 hgu; rw [List.nil_append] at hown2; have hanch1 := hanch.grown hgu hanch.size (fun q e => (hown1.lt q e).1); have hub1 := Nat.le_trans hub hgu.size; clear hanch hub hsr hown1 hgu; have hanch := hanch1; have hub := hub1; clear hanch1 hub1))
    | (go_at_call 12; have _t := PG3; clear _t; go_must (refine (PG3.out _ _ hown2.reads).mono ?_; clear PG3; rintro e u ⟨w6, rfl, hw6, hbu⟩; have hx1 := hx.trans (hanch.mono hx.size); clear hx; have hx := hx1; clear hx1; clear hanch; clear hown2 hub; have hx1 := hx.trans (hbu.mono hx.size); clear hx; have hx := hx1; clear hx1; have hl3 := hw6.reads; obtain ⟨pl, cl, rfl, _, _⟩ := hl3.shape; clear hw6 hbu)))
  go_ret
  exact ⟨rfl, hx⟩
set_option maxRecDepth 100000 in
set_option maxHeartbeats 800000 in
theorem back_D1 (v v' v2 : Value) (al bl : List A) (xs : List Int) (X : List Int) (Y : List Int) (L : List A) (kk : Int) (w : World) (hr1 : ReadsL w v al) (hr2 : ReadsL w v' bl) (hr3 : Reads .u8 w v2 xs) (hok1 : ∀ a ∈ al, a.ok) (hok2 : ∀ a ∈ bl, a.ok) (hd1 : ∀ a ∈ al, a.data.length ≤ 140737488351232) (hd2 : ∀ a ∈ bl, a.data.length ≤ 140737488351232) (hwf : ∀ x ∈ xs, 0 ≤ x ∧ x ≤ 255) (hb : xs.length ≤ 140737488351232) (he : putOf al = (X, 0)) (hf : putOf bl = (Y, 0)) (hs : al.length + bl.length ≤ 64) (ht : 4096 < X.length + Y.length) (hg : getOf xs = (L, kk, 0)) :
    Calls Try.prog 5 #[v, v', v2] w fun e w' => e = .returned (.bool true) ∧ Below w.heap.size w w' := by
  obtain ⟨p1, c1, rfl, q11, q12⟩ := hr1.shape
  obtain ⟨p2, c2, rfl, q21, q22⟩ := hr2.shape
  obtain ⟨p3, c3, rfl, q31, q32⟩ := shapeN hr3
  have PO1 := Lib.hid (own _ al w hr1 (fun a ha => by have := hd1 a ha; omega))
  have PO2 := Lib.hid (fun u (h : ReadsL u (.slice p2 bl.length c2) bl) => own _ bl u h (fun a ha => by have := hd2 a ha; omega))
  have PP1 := Lib.hid (fun v u (h : ReadsL u v (al.take 200)) => by have := avpPut v (al.take 200) u h (fun a ha => ⟨hok1 a (List.mem_of_mem_take ha), by have := hd1 a (List.mem_of_mem_take ha); omega⟩); rwa [putOf_take, he] at this)
  have PP2 := Lib.hid (fun v u (h : ReadsL u v (bl.take 200)) => by have := avpPut v (bl.take 200) u h (fun a ha => ⟨hok2 a (List.mem_of_mem_take ha), by have := hd2 a (List.mem_of_mem_take ha); omega⟩); rwa [putOf_take, hf] at this)
  obtain ⟨x1, x2, x3, x4, x5⟩ := put_ok he hok1
  have PG1 := Lib.hid (fun v u (h : Reads .u8 u v X) => by have := avpGet v X u h x4; rwa [x5] at this)
  have SA1 := Lib.hid (fun v v' u (h : ReadsL u v al) (h' : ReadsL u v' al) => sameAll v v' al al u h h' hok1 hok1)
  obtain ⟨y1, y2, y3, y4, y5⟩ := put_ok hf hok2
  have PG3 := Lib.hid (fun v u (h : Reads .u8 u v xs) => by have := avpGet v xs u h hwf; rwa [hg] at this)
  obtain ⟨Z, z1, z2, z3, z4⟩ := got_ok hwf hg
  obtain ⟨t1, t2, t3, t4, t5⟩ := put_ok z1 z3
  have PP3 := Lib.hid (fun v u (h : ReadsL u v L) => by have := avpPut v L u h (fun a ha => ⟨z3 a ha, by have := z4 a ha; omega⟩); rwa [z1] at this)
  have PG4 := Lib.hid (fun v u (h : Reads .u8 u v Z) => by have := avpGet v Z u h t4; rwa [t5] at this)
  have SA3 := Lib.hid (fun v v' u (h : ReadsL u v L) (h' : ReadsL u v' L) => sameAll v v' L L u h h' z3 z3)
  have hzl : ((Z.length : Int) == xs.length) = true := by rw [z2]; simp
  have hg0b : True := trivial
  clear z1 z2 z3 z4 t2 t4 t5
  have HR1 := Lib.hid hr1
  have HR2 := Lib.hid hr2
  have HR3 := Lib.hid hr3
  have K1 : ([] : List Int).length + xs.length ≤ maxLen := by simp [maxLen]; omega
  have K2 : (([] : List Int).length + xs.length) * 1 ≤ 140737488355328 := by simp; omega
  have q13 : al.length ≤ 9223372036854775807 := by unfold maxLen at q12; omega
  have q23 : bl.length ≤ 9223372036854775807 := by unfold maxLen at q22; omega
  have hxl : (X.length : Int) ≤ 4096 := by omega
  have hyl : (Y.length : Int) ≤ 4096 := by omega
  clear hr1 hr2 hr3 hok1 hok2 hd1 hd2 hwf he hf hg x2 x4 x5 y2 y4 y5
  have hx := Below.refl w.heap.size w
  go_enter Try.func5, Try.ntmps5
  go_wp2_with (first
    | (go_at_call 9; have _t := PO1; clear _t; go_must (refine PO1.out.mono ?_; clear PO1; rintro e u ⟨w1, rfl, hw1, hbu⟩; have hx1 := hx.trans (hbu.mono hx.size); clear hx; have hx := hx1; clear hx1; have hl1 := hw1.reads; clear hw1 hbu))
    | (go_at_call 8; have _t := PP1; clear _t; go_must (refine (PP1.out _ _ hl1).mono ?_; clear PP1; rintro e u ⟨w2, rfl, hw2, hbu⟩; have hx1 := hx.trans (hbu.mono hx.size); clear hx; have hx := hx1; clear hx1; obtain ⟨px, cx, rfl, _, _⟩ := shapeN hw2.reads; have hX := hw2.reads; clear hl1 hw2 hbu))
    | (go_at_call 9; have _t := PO2; clear _t; go_must (refine (PO2.out _ (HR2.out.below hx)).mono ?_; clear PO2; rintro e u ⟨w3, rfl, hw3, hbu⟩; have hx1 := hx.trans (hbu.mono hx.size); clear hx; have hx := hx1; clear hx1; have hl1 := hw3.reads; have hX1 := hX.below hbu; clear hX; have hX := hX1; clear hX1; clear hw3 hbu))
    | (go_at_call 8; have _t := PP2; clear _t; go_must (refine (PP2.out _ _ hl1).mono ?_; clear PP2; rintro e u ⟨w4, rfl, hw4, hbu⟩; have hx1 := hx.trans (hbu.mono hx.size); clear hx; have hx := hx1; clear hx1; obtain ⟨py, cy, rfl, _, _⟩ := shapeN hw4.reads; have hY := hw4.reads; have hX1 := hX.below hbu; clear hX; have hX := hX1; clear hX1; clear hl1 hw4 hbu))
    | (go_at_call 11; go_must (refine (answers _).mono ?_; rintro e u ⟨rfl, hbu⟩; have hx1 := hx.trans (hbu.mono hx.size); clear hx; have hx := hx1; clear hx1; have hX1 := hX.below hbu; clear hX; have hX := hX1; clear hX1; have hY1 := hY.below hbu; clear hY; have hY := hY1; clear hY1; clear hbu))
    | (go_at_call 12; have _t := PG1; clear _t; go_must (refine (PG1.out _ _ hX).mono ?_; clear PG1; rintro e u ⟨w6, rfl, hw6, hbu⟩; have hx1 := hx.trans (hbu.mono hx.size); clear hx; have hx := hx1; clear hx1; have hX1 := hX.below hbu; clear hX; have hX := hX1; clear hX1; have hY1 := hY.below hbu; clear hY; have hY := hY1; clear hY1; have hl1 := hw6.reads; obtain ⟨pg, cg, rfl, _, _⟩ := hl1.shape; clear hw6 hbu))
    | (go_at_call 14; have _t := SA1; clear _t; go_must (refine (SA1.out _ _ _ hl1 (HR1.out.below hx)).mono ?_; clear SA1; rintro e u ⟨rfl, hbu⟩; have hx1 := hx.trans (hbu.mono hx.size); clear hx; have hx := hx1; clear hx1; have hX1 := hX.below hbu; clear hX; have hX := hX1; clear hX1; have hY1 := hY.below hbu; clear hY; have hY := hY1; clear hY1; clear hl1 hbu))
    | ((with_reducible refine wpl_empty rfl 23 5 rfl .u8 (fun _ => by kernel_rfl) ?_); have _t := PG3; clear _t; go_must (intro u hown1 hbu hsu; have HSU := Lib.hid hsu; have hanch := hbu; have hub := hbu.size; clear hsu HSU hbu))
    | (at_builtin; have _t := hown1; clear _t; have _t := PG3; clear _t; go_must (have hsr := (HR3.out.below hx).below hanch; obtain ⟨i0, hi, hz0, hz1, hz2⟩ := info_parts info5; refine wpl_append rfl (.tmp 99) (.tmp 100) 23 rfl .u8 _ 5 1 i0 (.int .u8 0) Try.underlying23 hi hz0 hz1 hz2 rfl _ _ [] xs rfl rfl hown1 hsr K1 K2 hub ?_; clear hi hz0 hz1 hz2; intro v9 u hown2 hgu; rw [List.nil_append] at hown2; have hanch1 := hanch.grown hgu hanch.size (fun q e => (hown1.lt q e).1); have hub1 := Nat.le_trans hub hgu.size; clear hanch hub hsr hown1 hgu; have hanch := hanch1; have hub := hub1; clear hanch1 hub1))
    | (go_at_call 12; have _t := PG3; clear _t; go_must (refine (PG3.out _ _ hown2.reads).mono ?_; clear PG3; rintro e u ⟨w6, rfl, hw6, hbu⟩; have hx1 := hx.trans (hanch.mono hx.size); clear hx; have hx := hx1; clear hx1; clear hanch; clear hown2 hub; have hx1 := hx.trans (hbu.mono hx.size); clear hx; have hx := hx1; clear hx1; have hl3 := hw6.reads; obtain ⟨pl, cl, rfl, _, _⟩ := hl3.shape; clear hw6 hbu))
    | (go_at_call 8; have _t := PP3; clear _t; go_must (refine (PP3.out _ _ hl3).mono ?_; clear PP3; rintro e u ⟨w4, rfl, hw4, hbu⟩; have hx1 := hx.trans (hbu.mono hx.size); clear hx; have hx := hx1; clear hx1; have hl31 := hl3.below hbu; clear hl3; have hl3 := hl31; clear hl31; obtain ⟨pz, cz, rfl, _, _⟩ := shapeN hw4.reads; have hZ := hw4.reads; clear hw4 hbu))
    | (go_at_call 12; have _t := PG4; clear _t; go_must (refine (PG4.out _ _ hZ).mono ?_; clear PG4; rintro e u ⟨w6, rfl, hw6, hbu⟩; have hx1 := hx.trans (hbu.mono hx.size); clear hx; have hx := hx1; clear hx1; have hl31 := hl3.below hbu; clear hl3; have hl3 := hl31; clear hl31; have hl4 := hw6.reads; clear hw6 hbu hZ))
    | (go_at_call 14; have _t := SA3; clear _t; go_must (refine (SA3.out _ _ _ hl3 hl4).mono ?_; clear SA3; rintro e u ⟨rfl, hbu⟩; have hx1 := hx.trans (hbu.mono hx.size); clear hx; have hx := hx1; clear hx1; clear hl3 hl4 hbu)))
  go_ret
  exact ⟨rfl, hx⟩
set_option maxRecDepth 100000 in
set_option maxHeartbeats 800000 in
theorem back_D0 (v v' v2 : Value) (al bl : List A) (xs : List Int) (X : List Int) (Y : List Int) (kk gg : Int) (w : World) (hr1 : ReadsL w v al) (hr2 : ReadsL w v' bl) (hr3 : Reads .u8 w v2 xs) (hok1 : ∀ a ∈ al, a.ok) (hok2 : ∀ a ∈ bl, a.ok) (hd1 : ∀ a ∈ al, a.data.length ≤ 140737488351232) (hd2 : ∀ a ∈ bl, a.data.length ≤ 140737488351232) (hwf : ∀ x ∈ xs, 0 ≤ x ∧ x ≤ 255) (hb : xs.length ≤ 140737488351232) (he : putOf al = (X, 0)) (hf : putOf bl = (Y, 0)) (hs : al.length + bl.length ≤ 64) (ht : 4096 < X.length + Y.length) (hg : getOf xs = ([], kk, gg)) (hg0 : gg ≠ 0) :
    Calls Try.prog 5 #[v, v', v2] w fun e w' => e = .returned (.bool true) ∧ Below w.heap.size w w' := by
  obtain ⟨p1, c1, rfl, q11, q12⟩ := hr1.shape
  obtain ⟨p2, c2, rfl, q21, q22⟩ := hr2.shape
  obtain ⟨p3, c3, rfl, q31, q32⟩ := shapeN hr3
  have PO1 := Lib.hid (own _ al w hr1 (fun a ha => by have := hd1 a ha; omega))
  have PO2 := Lib.hid (fun u (h : ReadsL u (.slice p2 bl.length c2) bl) => own _ bl u h (fun a ha => by have := hd2 a ha; omega))
  have PP1 := Lib.hid (fun v u (h : ReadsL u v (al.take 200)) => by have := avpPut v (al.take 200) u h (fun a ha => ⟨hok1 a (List.mem_of_mem_take ha), by have := hd1 a (List.mem_of_mem_take ha); omega⟩); rwa [putOf_take, he] at this)
  have PP2 := Lib.hid (fun v u (h : ReadsL u v (bl.take 200)) => by have := avpPut v (bl.take 200) u h (fun a ha => ⟨hok2 a (List.mem_of_mem_take ha), by have := hd2 a (List.mem_of_mem_take ha); omega⟩); rwa [putOf_take, hf] at this)
  obtain ⟨x1, x2, x3, x4, x5⟩ := put_ok he hok1
  have PG1 := Lib.hid (fun v u (h : Reads .u8 u v X) => by have := avpGet v X u h x4; rwa [x5] at this)
  have SA1 := Lib.hid (fun v v' u (h : ReadsL u v al) (h' : ReadsL u v' al) => sameAll v v' al al u h h' hok1 hok1)
  obtain ⟨y1, y2, y3, y4, y5⟩ := put_ok hf hok2
  have PG3 := Lib.hid (fun v u (h : Reads .u8 u v xs) => by have := avpGet v xs u h hwf; rwa [hg] at this)
  have hg0b : (gg != 0) = true := by simpa using hg0
  have hg0c : (gg == 0) = false := by simpa using hg0
  clear hg0
  have HR1 := Lib.hid hr1
  have HR2 := Lib.hid hr2
  have HR3 := Lib.hid hr3
  have K1 : ([] : List Int).length + xs.length ≤ maxLen := by simp [maxLen]; omega
  have K2 : (([] : List Int).length + xs.length) * 1 ≤ 140737488355328 := by simp; omega
  have q13 : al.length ≤ 9223372036854775807 := by unfold maxLen at q12; omega
  have q23 : bl.length ≤ 9223372036854775807 := by unfold maxLen at q22; omega
  have hxl : (X.length : Int) ≤ 4096 := by omega
  have hyl : (Y.length : Int) ≤ 4096 := by omega
  clear hr1 hr2 hr3 hok1 hok2 hd1 hd2 hwf he hf hg x2 x4 x5 y2 y4 y5
  have hx := Below.refl w.heap.size w
  go_enter Try.func5, Try.ntmps5
  go_wp2_with (first
    | (go_at_call 9; have _t := PO1; clear _t; go_must (refine PO1.out.mono ?_; clear PO1; rintro e u ⟨w1, rfl, hw1, hbu⟩; have hx1 := hx.trans (hbu.mono hx.size); clear hx; have hx := hx1; clear hx1; have hl1 := hw1.reads; clear hw1 hbu))
    | (go_at_call 8; have _t := PP1; clear _t; go_must (refine (PP1.out _ _ hl1).mono ?_; clear PP1; rintro e u ⟨w2, rfl, hw2, hbu⟩; have hx1 := hx.trans (hbu.mono hx.size); clear hx; have hx := hx1; clear hx1; obtain ⟨px, cx, rfl, _, _⟩ := shapeN hw2.reads; have hX := hw2.reads; clear hl1 hw2 hbu))
    | (go_at_call 9; have _t := PO2; clear _t; go_must (refine (PO2.out _ (HR2.out.below hx)).mono ?_; clear PO2; rintro e u ⟨w3, rfl, hw3, hbu⟩; have hx1 := hx.trans (hbu.mono hx.size); clear hx; have hx := hx1; clear hx1; have hl1 := hw3.reads; have hX1 := hX.below hbu; clear hX; have hX := hX1; clear hX1; clear hw3 hbu))
    | (go_at_call 8; have _t := PP2; clear _t; go_must (refine (PP2.out _ _ hl1).mono ?_; clear PP2; rintro e u ⟨w4, rfl, hw4, hbu⟩; have hx1 := hx.trans (hbu.mono hx.size); clear hx; have hx := hx1; clear hx1; obtain ⟨py, cy, rfl, _, _⟩ := shapeN hw4.reads; have hY := hw4.reads; have hX1 := hX.below hbu; clear hX; have hX := hX1; clear hX1; clear hl1 hw4 hbu))
    | (go_at_call 11; go_must (refine (answers _).mono ?_; rintro e u ⟨rfl, hbu⟩; have hx1 := hx.trans (hbu.mono hx.size); clear hx; have hx := hx1; clear hx1; have hX1 := hX.below hbu; clear hX; have hX := hX1; clear hX1; have hY1 := hY.below hbu; clear hY; have hY := hY1; clear hY1; clear hbu))
    | (go_at_call 12; have _t := PG1; clear _t; go_must (refine (PG1.out _ _ hX).mono ?_; clear PG1; rintro e u ⟨w6, rfl, hw6, hbu⟩; have hx1 := hx.trans (hbu.mono hx.size); clear hx; have hx := hx1; clear hx1; have hX1 := hX.below hbu; clear hX; have hX := hX1; clear hX1; have hY1 := hY.below hbu; clear hY; have hY := hY1; clear hY1; have hl1 := hw6.reads; obtain ⟨pg, cg, rfl, _, _⟩ := hl1.shape; clear hw6 hbu))
    | (go_at_call 14; have _t := SA1; clear _t; go_must (refine (SA1.out _ _ _ hl1 (HR1.out.below hx)).mono ?_; clear SA1; rintro e u ⟨rfl, hbu⟩; have hx1 := hx.trans (hbu.mono hx.size); clear hx; have hx := hx1; clear hx1; have hX1 := hX.below hbu; clear hX; have hX := hX1; clear hX1; have hY1 := hY.below hbu; clear hY; have hY := hY1; clear hY1; clear hl1 hbu))
    | ((with_reducible refine wpl_empty rfl 23 5 rfl .u8 (fun _ => by kernel_rfl) ?_); have _t := PG3; clear _t; go_must (intro u hown1 hbu hsu; have HSU := Lib.hid hsu; have hanch := hbu; have hub := hbu.size; clear hsu HSU hbu))
    | (at_builtin; have _t := hown1; clear _t; have _t := PG3; clear _t; go_must (have hsr := (HR3.out.below hx).below hanch; obtain ⟨i0, hi, hz0, hz1, hz2⟩ := info_parts info5; refine wpl_append rfl (.tmp 99) (.tmp 100) 23 rfl .u8 _ 5 1 i0 (.int .u8 0) Try.underlying23 hi hz0 hz1 hz2 rfl _ _ [] xs rfl rfl hown1 hsr K1 K2 hub ?_; clear hi hz0 hz1 hz2; intro v9 u hown2 hgu; rw [List.nil_append] at hown2; have hanch1 := hanch.grown hgu hanch.size (fun q e => (hown1.lt q e).1); have hub1 := Nat.le_trans hub hgu.size; clear hanch hub hsr hown1 hgu; have hanch := hanch1; have hub := hub1; clear hanch1 hub1))
    | (go_at_call 12; have _t := PG3; clear _t; go_must (refine (PG3.out _ _ hown2.reads).mono ?_; clear PG3; rintro e u ⟨w6, rfl, hw6, hbu⟩; have hx1 := hx.trans (hanch.mono hx.size); clear hx; have hx := hx1; clear hx1; clear hanch; clear hown2 hub; have hx1 := hx.trans (hbu.mono hx.size); clear hx; have hx := hx1; clear hx1; have hl3 := hw6.reads; obtain ⟨pl, cl, rfl, _, _⟩ := hl3.shape; clear hw6 hbu)))
  go_ret
  exact ⟨rfl, hx⟩
set_option maxRecDepth 100000 in
set_option maxHeartbeats 800000 in
theorem back_E1 (v v' v2 : Value) (al bl : List A) (xs : List Int) (X : List Int) (Y : List Int) (L : List A) (kk : Int) (w : World) (hr1 : ReadsL w v al) (hr2 : ReadsL w v' bl) (hr3 : Reads .u8 w v2 xs) (hok1 : ∀ a ∈ al, a.ok) (hok2 : ∀ a ∈ bl, a.ok) (hd1 : ∀ a ∈ al, a.data.length ≤ 140737488351232) (hd2 : ∀ a ∈ bl, a.data.length ≤ 140737488351232) (hwf : ∀ x ∈ xs, 0 ≤ x ∧ x ≤ 255) (hb : xs.length ≤ 140737488351232) (he : putOf al = (X, 0)) (hf : putOf bl = (Y, 0)) (hs : al.length + bl.length ≤ 64) (ht : X.length + Y.length ≤ 4096) (hg : getOf xs = (L, kk, 0)) :
    Calls Try.prog 5 #[v, v', v2] w fun e w' => e = .returned (.bool true) ∧ Below w.heap.size w w' := by
  obtain ⟨p1, c1, rfl, q11, q12⟩ := hr1.shape
  obtain ⟨p2, c2, rfl, q21, q22⟩ := hr2.shape
  obtain ⟨p3, c3, rfl, q31, q32⟩ := shapeN hr3
  have PO1 := Lib.hid (own _ al w hr1 (fun a ha => by have := hd1 a ha; omega))
  have PO2 := Lib.hid (fun u (h : ReadsL u (.slice p2 bl.length c2) bl) => own _ bl u h (fun a ha => by have := hd2 a ha; omega))
  have PP1 := Lib.hid (fun v u (h : ReadsL u v (al.take 200)) => by have := avpPut v (al.take 200) u h (fun a ha => ⟨hok1 a (List.mem_of_mem_take ha), by have := hd1 a (List.mem_of_mem_take ha); omega⟩); rwa [putOf_take, he] at this)
  have PP2 := Lib.hid (fun v u (h : ReadsL u v (bl.take 200)) => by have := avpPut v (bl.take 200) u h (fun a ha => ⟨hok2 a (List.mem_of_mem_take ha), by have := hd2 a (List.mem_of_mem_take ha); omega⟩); rwa [putOf_take, hf] at this)
  obtain ⟨x1, x2, x3, x4, x5⟩ := put_ok he hok1
  have PG1 := Lib.hid (fun v u (h : Reads .u8 u v X) => by have := avpGet v X u h x4; rwa [x5] at this)
  have SA1 := Lib.hid (fun v v' u (h : ReadsL u v al) (h' : ReadsL u v' al) => sameAll v v' al al u h h' hok1 hok1)
  obtain ⟨y1, y2, y3, y4, y5⟩ := put_ok hf hok2
  have hokab : ∀ a ∈ al ++ bl, a.ok := by intro a ha; rcases List.mem_append.1 ha with ha | ha; exact hok1 a ha; exact hok2 a ha
  have hxy : X ++ Y = encAll 0 0 (al ++ bl) := by rw [encAll_append, ← x2, ← y2]
  have hab : getOf (X ++ Y) = (al ++ bl, 0, 0) := by
    rw [hxy]
    refine get_put 0 0 (by omega) (al ++ bl) (fun a ha => ⟨hokab a ha, ?_⟩) (by simpa using hs) (by rw [← hxy]; simpa using ht)
    have := enc_data 0 0 a _ ha
    rw [← hxy, List.length_append] at this
    omega
  have hxyw : ∀ x ∈ X ++ Y, 0 ≤ x ∧ x ≤ 255 := by rw [hxy]; exact encAll_wf _ hokab 0 0 (by omega) (by omega)
  obtain ⟨ab, hab2⟩ : ∃ ab, al ++ bl = ab := ⟨_, rfl⟩
  rw [hab2] at hab hokab
  have HAB := Lib.hid hab2
  have PG2 := Lib.hid (fun v u (h : Reads .u8 u v (X ++ Y)) => by have := avpGet v (X ++ Y) u h hxyw; rwa [hab] at this)
  have SA2 := Lib.hid (fun v v' u (h : ReadsL u v ab) (h' : ReadsL u v' ab) => sameAll v v' ab ab u h h' hokab hokab)
  have PO3 := Lib.hid (fun u (h : ReadsL u (.slice p1 al.length c1) al) => by have := own (.slice p1 al.length c1) al u h (fun a ha => by have := hd1 a ha; omega); rwa [List.take_of_length_le (show al.length ≤ 200 by omega)] at this)
  clear hokab hxy hab hxyw hab2
  have PG3 := Lib.hid (fun v u (h : Reads .u8 u v xs) => by have := avpGet v xs u h hwf; rwa [hg] at this)
  obtain ⟨Z, z1, z2, z3, z4⟩ := got_ok hwf hg
  obtain ⟨t1, t2, t3, t4, t5⟩ := put_ok z1 z3
  have PP3 := Lib.hid (fun v u (h : ReadsL u v L) => by have := avpPut v L u h (fun a ha => ⟨z3 a ha, by have := z4 a ha; omega⟩); rwa [z1] at this)
  have PG4 := Lib.hid (fun v u (h : Reads .u8 u v Z) => by have := avpGet v Z u h t4; rwa [t5] at this)
  have SA3 := Lib.hid (fun v v' u (h : ReadsL u v L) (h' : ReadsL u v' L) => sameAll v v' L L u h h' z3 z3)
  have hzl : ((Z.length : Int) == xs.length) = true := by rw [z2]; simp
  have hg0b : True := trivial
  clear z1 z2 z3 z4 t2 t4 t5
  have HR1 := Lib.hid hr1
  have HR2 := Lib.hid hr2
  have HR3 := Lib.hid hr3
  have K1 : ([] : List Int).length + xs.length ≤ maxLen := by simp [maxLen]; omega
  have K2 : (([] : List Int).length + xs.length) * 1 ≤ 140737488355328 := by simp; omega
  have J1 : ([] : List Int).length + X.length ≤ maxLen := by simp [maxLen]; omega
  have J2 : (([] : List Int).length + X.length) * 1 ≤ 140737488355328 := by simp; omega
  have J3 : X.length + Y.length ≤ maxLen := by simp [maxLen]; omega
  have J4 : (X.length + Y.length) * 1 ≤ 140737488355328 := by omega
  have J5 : al.length + bl.length ≤ maxLen := by simp [maxLen]; omega
  have J6 : (al.length + bl.length) * 40 ≤ 140737488355328 := by omega
  have q13 : al.length ≤ 9223372036854775807 := by unfold maxLen at q12; omega
  have q23 : bl.length ≤ 9223372036854775807 := by unfold maxLen at q22; omega
  have hxl : (X.length : Int) ≤ 4096 := by omega
  have hyl : (Y.length : Int) ≤ 4096 := by omega
  clear hr1 hr2 hr3 hok1 hok2 hd1 hd2 hwf he hf hg x2 x4 x5 y2 y4 y5
  have hx := Below.refl w.heap.size w
  go_enter Try.func5, Try.ntmps5
  go_wp2_with (first
    | (go_at_call 9; have _t := PO1; clear _t; go_must (refine PO1.out.mono ?_; clear PO1; rintro e u ⟨w1, rfl, hw1, hbu⟩; have hx1 := hx.trans (hbu.mono hx.size); clear hx; have hx := hx1; clear hx1; have hl1 := hw1.reads; clear hw1 hbu))
    | (go_at_call 8; have _t := PP1; clear _t; go_must (refine (PP1.out _ _ hl1).mono ?_; clear PP1; rintro e u ⟨w2, rfl, hw2, hbu⟩; have hx1 := hx.trans (hbu.mono hx.size); clear hx; have hx := hx1; clear hx1; obtain ⟨px, cx, rfl, _, _⟩ := shapeN hw2.reads; have hX := hw2.reads; clear hl1 hw2 hbu))
    | (go_at_call 9; have _t := PO2; clear _t; go_must (refine (PO2.out _ (HR2.out.below hx)).mono ?_; clear PO2; rintro e u ⟨w3, rfl, hw3, hbu⟩; have hx1 := hx.trans (hbu.mono hx.size); clear hx; have hx := hx1; clear hx1; have hl1 := hw3.reads; have hX1 := hX.below hbu; clear hX; have hX := hX1; clear hX1; clear hw3 hbu))
    | (go_at_call 8; have _t := PP2; clear _t; go_must (refine (PP2.out _ _ hl1).mono ?_; clear PP2; rintro e u ⟨w4, rfl, hw4, hbu⟩; have hx1 := hx.trans (hbu.mono hx.size); clear hx; have hx := hx1; clear hx1; obtain ⟨py, cy, rfl, _, _⟩ := shapeN hw4.reads; have hY := hw4.reads; have hX1 := hX.below hbu; clear hX; have hX := hX1; clear hX1; clear hl1 hw4 hbu))
    | (go_at_call 11; go_must (refine (answers _).mono ?_; rintro e u ⟨rfl, hbu⟩; have hx1 := hx.trans (hbu.mono hx.size); clear hx; have hx := hx1; clear hx1; have hX1 := hX.below hbu; clear hX; have hX := hX1; clear hX1; have hY1 := hY.below hbu; clear hY; have hY := hY1; clear hY1; clear hbu))
    | (go_at_call 12; have _t := PG1; clear _t; go_must (refine (PG1.out _ _ hX).mono ?_; clear PG1; rintro e u ⟨w6, rfl, hw6, hbu⟩; have hx1 := hx.trans (hbu.mono hx.size); clear hx; have hx := hx1; clear hx1; have hX1 := hX.below hbu; clear hX; have hX := hX1; clear hX1; have hY1 := hY.below hbu; clear hY; have hY := hY1; clear hY1; have hl1 := hw6.reads; obtain ⟨pg, cg, rfl, _, _⟩ := hl1.shape; clear hw6 hbu))
    | (go_at_call 14; have _t := SA1; clear _t; go_must (refine (SA1.out _ _ _ hl1 (HR1.out.below hx)).mono ?_; clear SA1; rintro e u ⟨rfl, hbu⟩; have hx1 := hx.trans (hbu.mono hx.size); clear hx; have hx := hx1; clear hx1; have hX1 := hX.below hbu; clear hX; have hX := hX1; clear hX1; have hY1 := hY.below hbu; clear hY; have hY := hY1; clear hY1; clear hl1 hbu))
    | ((with_reducible refine wpl_empty rfl 23 5 rfl .u8 (fun _ => by kernel_rfl) ?_); have _t := PG2; clear _t; go_must (intro u hown1 hbu hsu; have HSU := Lib.hid hsu; have hanch := hbu; have hub := hbu.size; clear hsu HSU hbu))
    | (at_builtin; have _t := hown1; clear _t; have _t := PG2; clear _t; go_must (have hsr := hX.below hanch; obtain ⟨i0, hi, hz0, hz1, hz2⟩ := info_parts info5; refine wpl_append rfl (.tmp 78) (.tmp 79) 23 rfl .u8 _ 5 1 i0 (.int .u8 0) Try.underlying23 hi hz0 hz1 hz2 rfl _ _ [] X rfl rfl hown1 hsr J1 J2 hub ?_; clear hi hz0 hz1 hz2; intro v9 u hown2 hgu; rw [List.nil_append] at hown2; have hanch1 := hanch.grown hgu hanch.size (fun q e => (hown1.lt q e).1); have hub1 := Nat.le_trans hub hgu.size; clear hanch hub hsr hown1 hgu; have hanch := hanch1; have hub := hub1; clear hanch1 hub1))
    | (at_builtin; have _t := hown2; clear _t; have _t := PG2; clear _t; go_must (have hsr := hY.below hanch; obtain ⟨i0, hi, hz0, hz1, hz2⟩ := info_parts info5; refine wpl_append rfl (.tmp 80) (.tmp 81) 23 rfl .u8 _ 5 1 i0 (.int .u8 0) Try.underlying23 hi hz0 hz1 hz2 rfl _ _ X Y rfl rfl hown2 hsr J3 J4 hub ?_; clear hi hz0 hz1 hz2; intro v9 u hown3 hgu; have hanch1 := hanch.grown hgu hanch.size (fun q e => (hown2.lt q e).1); have hub1 := Nat.le_trans hub hgu.size; clear hanch hub hsr hown2 hgu; have hanch := hanch1; have hub := hub1; clear hanch1 hub1))
    | (go_at_call 12; have _t := PG2; clear _t; go_must (refine (PG2.out _ _ hown3.reads).mono ?_; clear PG2; rintro e u ⟨w6, rfl, hw6, hbu⟩; have hx1 := hx.trans (hanch.mono hx.size); clear hx; have hx := hx1; clear hx1; clear hanch; clear hown3 hub hX hY; have hx1 := hx.trans (hbu.mono hx.size); clear hx; have hx := hx1; clear hx1; have hl2 := hw6.reads; obtain ⟨pg, cg, rfl, _, _⟩ := hl2.shape; clear hw6 hbu))
    | (go_at_call 9; have _t := PO3; clear _t; go_must (refine (PO3.out _ (HR1.out.below hx)).mono ?_; clear PO3; rintro e u ⟨w7, rfl, hownL, hbu⟩; have hanch := hbu; have hub := hbu.size; have hwB := hx.size; clear hbu))
    | (at_builtin; have _t := hownL; clear _t; go_must (have hxu := hx.trans (hanch.mono hx.size); obtain ⟨i41, z41, i1, i2, i3, i4, i5⟩ := info41; refine wpl_wanted (by rfl) ?_; refine wpl_appendRL rfl (.tmp 92) (.tmp 93) 22 rfl _ 41 40 i41 z41 Try.underlying22 i1 i2 i3 i4 i5 _ _ al bl w rfl rfl hownL HR2.out hxu hwB J5 J6 hub ?_; clear i1 i2 i3 i4 i5; intro v8 u hv8 hgu; rw [HAB.out] at hv8; have hanch1 := hanch.grown hgu hanch.size (fun q e => (hownL.lt q e).1); clear hanch hownL hgu hxu hub hwB; have hanch := hanch1; clear hanch1))
    | (go_at_call 14; have _t := SA2; clear _t; go_must (refine (SA2.out _ _ _ (hl2.below hanch) hv8.reads).mono ?_; clear SA2; rintro e u ⟨rfl, hbu⟩; have hx1 := hx.trans (hanch.mono hx.size); clear hx; have hx := hx1; clear hx1; clear hanch; have hx1 := hx.trans (hbu.mono hx.size); clear hx; have hx := hx1; clear hx1; clear hl2 hv8 hbu))
    | ((with_reducible refine wpl_empty rfl 23 5 rfl .u8 (fun _ => by kernel_rfl) ?_); have _t := PG3; clear _t; go_must (intro u hown1 hbu hsu; have HSU := Lib.hid hsu; have hanch := hbu; have hub := hbu.size; clear hsu HSU hbu))
    | (at_builtin; have _t := hown1; clear _t; have _t := PG3; clear _t; go_must (have hsr := (HR3.out.below hx).below hanch; obtain ⟨i0, hi, hz0, hz1, hz2⟩ := info_parts info5; refine wpl_append rfl (.tmp 99) (.tmp 100) 23 rfl .u8 _ 5 1 i0 (.int .u8 0) Try.underlying23 hi hz0 hz1 hz2 rfl _ _ [] xs rfl rfl hown1 hsr K1 K2 hub ?_; clear hi hz0 hz1 hz2; intro v9 u hown2 hgu; rw [List.nil_append] at hown2; have hanch1 := hanch.grown hgu hanch.size (fun q e => (hown1.lt q e).1); have hub1 := Nat.le_trans hub hgu.size; clear hanch hub hsr hown1 hgu; have hanch := hanch1; have hub := hub1; clear hanch1 hub1))
    | (go_at_call 12; have _t := PG3; clear _t; go_must (refine (PG3.out _ _ hown2.reads).mono ?_; clear PG3; rintro e u ⟨w6, rfl, hw6, hbu⟩; have hx1 := hx.trans (hanch.mono hx.size); clear hx; have hx := hx1; clear hx1; clear hanch; clear hown2 hub; have hx1 := hx.trans (hbu.mono hx.size); clear hx; have hx := hx1; clear hx1; have hl3 := hw6.reads; obtain ⟨pl, cl, rfl, _, _⟩ := hl3.shape; clear hw6 hbu))
    | (go_at_call 8; have _t := PP3; clear _t; go_must (refine (PP3.out _ _ hl3).mono ?_; clear PP3; rintro e u ⟨w4, rfl, hw4, hbu⟩; have hx1 := hx.trans (hbu.mono hx.size); clear hx; have hx := hx1; clear hx1; have hl31 := hl3.below hbu; clear hl3; have hl3 := hl31; clear hl31; obtain ⟨pz, cz, rfl, _, _⟩ := shapeN hw4.reads; have hZ := hw4.reads; clear hw4 hbu))
    | (go_at_call 12; have _t := PG4; clear _t; go_must (refine (PG4.out _ _ hZ).mono ?_; clear PG4; rintro e u ⟨w6, rfl, hw6, hbu⟩; have hx1 := hx.trans (hbu.mono hx.size); clear hx; have hx := hx1; clear hx1; have hl31 := hl3.below hbu; clear hl3; have hl3 := hl31; clear hl31; have hl4 := hw6.reads; clear hw6 hbu hZ))
    | (go_at_call 14; have _t := SA3; clear _t; go_must (refine (SA3.out _ _ _ hl3 hl4).mono ?_; clear SA3; rintro e u ⟨rfl, hbu⟩; have hx1 := hx.trans (hbu.mono hx.size); clear hx; have hx := hx1; clear hx1; clear hl3 hl4 hbu)))
  go_ret
  exact ⟨rfl, hx⟩
set_option maxRecDepth 100000 in
set_option maxHeartbeats 800000 in
theorem back_E0 (v v' v2 : Value) (al bl : List A) (xs : List Int) (X : List Int) (Y : List Int) (kk gg : Int) (w : World) (hr1 : ReadsL w v al) (hr2 : ReadsL w v' bl) (hr3 : Reads .u8 w v2 xs) (hok1 : ∀ a ∈ al, a.ok) (hok2 : ∀ a ∈ bl, a.ok) (hd1 : ∀ a ∈ al, a.data.length ≤ 140737488351232) (hd2 : ∀ a ∈ bl, a.data.length ≤ 140737488351232) (hwf : ∀ x ∈ xs, 0 ≤ x ∧ x ≤ 255) (hb : xs.length ≤ 140737488351232) (he : putOf al = (X, 0)) (hf : putOf bl = (Y, 0)) (hs : al.length + bl.length ≤ 64) (ht : X.length + Y.length ≤ 4096) (hg : getOf xs = ([], kk, gg)) (hg0 : gg ≠ 0) :
    Calls Try.prog 5 #[v, v', v2] w fun e w' => e = .returned (.bool true) ∧ Below w.heap.size w w' := by
  obtain ⟨p1, c1, rfl, q11, q12⟩ := hr1.shape
  obtain ⟨p2, c2, rfl, q21, q22⟩ := hr2.shape
  obtain ⟨p3, c3, rfl, q31, q32⟩ := shapeN hr3
  have PO1 := Lib.hid (own _ al w hr1 (fun a ha => by have := hd1 a ha; omega))
  have PO2 := Lib.hid (fun u (h : ReadsL u (.slice p2 bl.length c2) bl) => own _ bl u h (fun a ha => by have := hd2 a ha; omega))
  have PP1 := Lib.hid (fun v u (h : ReadsL u v (al.take 200)) => by have := avpPut v (al.take 200) u h (fun a ha => ⟨hok1 a (List.mem_of_mem_take ha), by have := hd1 a (List.mem_of_mem_take ha); omega⟩); rwa [putOf_take, he] at this)
  have PP2 := Lib.hid (fun v u (h : ReadsL u v (bl.take 200)) => by have := avpPut v (bl.take 200) u h (fun a ha => ⟨hok2 a (List.mem_of_mem_take ha), by have := hd2 a (List.mem_of_mem_take ha); omega⟩); rwa [putOf_take, hf] at this)
  obtain ⟨x1, x2, x3, x4, x5⟩ := put_ok he hok1
  have PG1 := Lib.hid (fun v u (h : Reads .u8 u v X) => by have := avpGet v X u h x4; rwa [x5] at this)
  have SA1 := Lib.hid (fun v v' u (h : ReadsL u v al) (h' : ReadsL u v' al) => sameAll v v' al al u h h' hok1 hok1)
  obtain ⟨y1, y2, y3, y4, y5⟩ := put_ok hf hok2
  have hokab : ∀ a ∈ al ++ bl, a.ok := by intro a ha; rcases List.mem_append.1 ha with ha | ha; exact hok1 a ha; exact hok2 a ha
  have hxy : X ++ Y = encAll 0 0 (al ++ bl) := by rw [encAll_append, ← x2, ← y2]
  have hab : getOf (X ++ Y) = (al ++ bl, 0, 0) := by
    rw [hxy]
    refine get_put 0 0 (by omega) (al ++ bl) (fun a ha => ⟨hokab a ha, ?_⟩) (by simpa using hs) (by rw [← hxy]; simpa using ht)
    have := enc_data 0 0 a _ ha
    rw [← hxy, List.length_append] at this
    omega
  have hxyw : ∀ x ∈ X ++ Y, 0 ≤ x ∧ x ≤ 255 := by rw [hxy]; exact encAll_wf _ hokab 0 0 (by omega) (by omega)
  obtain ⟨ab, hab2⟩ : ∃ ab, al ++ bl = ab := ⟨_, rfl⟩
  rw [hab2] at hab hokab
  have HAB := Lib.hid hab2
  have PG2 := Lib.hid (fun v u (h : Reads .u8 u v (X ++ Y)) => by have := avpGet v (X ++ Y) u h hxyw; rwa [hab] at this)
  have SA2 := Lib.hid (fun v v' u (h : ReadsL u v ab) (h' : ReadsL u v' ab) => sameAll v v' ab ab u h h' hokab hokab)
  have PO3 := Lib.hid (fun u (h : ReadsL u (.slice p1 al.length c1) al) => by have := own (.slice p1 al.length c1) al u h (fun a ha => by have := hd1 a ha; omega); rwa [List.take_of_length_le (show al.length ≤ 200 by omega)] at this)
  clear hokab hxy hab hxyw hab2
  have PG3 := Lib.hid (fun v u (h : Reads .u8 u v xs) => by have := avpGet v xs u h hwf; rwa [hg] at this)
  have hg0b : (gg != 0) = true := by simpa using hg0
  have hg0c : (gg == 0) = false := by simpa using hg0
  clear hg0
  have HR1 := Lib.hid hr1
  have HR2 := Lib.hid hr2
  have HR3 := Lib.hid hr3
  have K1 : ([] : List Int).length + xs.length ≤ maxLen := by simp [maxLen]; omega
  have K2 : (([] : List Int).length + xs.length) * 1 ≤ 140737488355328 := by simp; omega
  have J1 : ([] : List Int).length + X.length ≤ maxLen := by simp [maxLen]; omega
  have J2 : (([] : List Int).length + X.length) * 1 ≤ 140737488355328 := by simp; omega
  have J3 : X.length + Y.length ≤ maxLen := by simp [maxLen]; omega
  have J4 : (X.length + Y.length) * 1 ≤ 140737488355328 := by omega
  have J5 : al.length + bl.length ≤ maxLen := by simp [maxLen]; omega
  have J6 : (al.length + bl.length) * 40 ≤ 140737488355328 := by omega
  have q13 : al.length ≤ 9223372036854775807 := by unfold maxLen at q12; omega
  have q23 : bl.length ≤ 9223372036854775807 := by unfold maxLen at q22; omega
  have hxl : (X.length : Int) ≤ 4096 := by omega
  have hyl : (Y.length : Int) ≤ 4096 := by omega
  clear hr1 hr2 hr3 hok1 hok2 hd1 hd2 hwf he hf hg x2 x4 x5 y2 y4 y5
  have hx := Below.refl w.heap.size w
  go_enter Try.func5, Try.ntmps5
  go_wp2_with (first
    | (go_at_call 9; have _t := PO1; clear _t; go_must (refine PO1.out.mono ?_; clear PO1; rintro e u ⟨w1, rfl, hw1, hbu⟩; have hx1 := hx.trans (hbu.mono hx.size); clear hx; have hx := hx1; clear hx1; have hl1 := hw1.reads; clear hw1 hbu))
    | (go_at_call 8; have _t := PP1; clear _t; go_must (refine (PP1.out _ _ hl1).mono ?_; clear PP1; rintro e u ⟨w2, rfl, hw2, hbu⟩; have hx1 := hx.trans (hbu.mono hx.size); clear hx; have hx := hx1; clear hx1; obtain ⟨px, cx, rfl, _, _⟩ := shapeN hw2.reads; have hX := hw2.reads; clear hl1 hw2 hbu))
    | (go_at_call 9; have _t := PO2; clear _t; go_must (refine (PO2.out _ (HR2.out.below hx)).mono ?_; clear PO2; rintro e u ⟨w3, rfl, hw3, hbu⟩; have hx1 := hx.trans (hbu.mono hx.size); clear hx; have hx := hx1; clear hx1; have hl1 := hw3.reads; have hX1 := hX.below hbu; clear hX; have hX := hX1; clear hX1; clear hw3 hbu))
    | (go_at_call 8; have _t := PP2; clear _t; go_must (refine (PP2.out _ _ hl1).mono ?_; clear PP2; rintro e u ⟨w4, rfl, hw4, hbu⟩; have hx1 := hx.trans (hbu.mono hx.size); clear hx; have hx := hx1; clear hx1; obtain ⟨py, cy, rfl, _, _⟩ := shapeN hw4.reads; have hY := hw4.reads; have hX1 := hX.below hbu; clear hX; have hX := hX1; clear hX1; clear hl1 hw4 hbu))
    | (go_at_call 11; go_must (refine (answers _).mono ?_; rintro e u ⟨rfl, hbu⟩; have hx1 := hx.trans (hbu.mono hx.size); clear hx; have hx := hx1; clear hx1; have hX1 := hX.below hbu; clear hX; have hX := hX1; clear hX1; have hY1 := hY.below hbu; clear hY; have hY := hY1; clear hY1; clear hbu))
    | (go_at_call 12; have _t := PG1; clear _t; go_must (refine (PG1.out _ _ hX).mono ?_; clear PG1; rintro e u ⟨w6, rfl, hw6, hbu⟩; have hx1 := hx.trans (hbu.mono hx.size); clear hx; have hx := hx1; clear hx1; have hX1 := hX.below hbu; clear hX; have hX := hX1; clear hX1; have hY1 := hY.below hbu; clear hY; have hY := hY1; clear hY1; have hl1 := hw6.reads; obtain ⟨pg, cg, rfl, _, _⟩ := hl1.shape; clear hw6 hbu))
    | (go_at_call 14; have _t := SA1; clear _t; go_must (refine (SA1.out _ _ _ hl1 (HR1.out.below hx)).mono ?_; clear SA1; rintro e u ⟨rfl, hbu⟩; have hx1 := hx.trans (hbu.mono hx.size); clear hx; have hx := hx1; clear hx1; have hX1 := hX.below hbu; clear hX; have hX := hX1; clear hX1; have hY1 := hY.below hbu; clear hY; have hY := hY1; clear hY1; clear hl1 hbu))
    | ((with_reducible refine wpl_empty rfl 23 5 rfl .u8 (fun _ => by kernel_rfl) ?_); have _t := PG2; clear _t; go_must (intro u hown1 hbu hsu; have HSU := Lib.hid hsu; have hanch := hbu; have hub := hbu.size; clear hsu HSU hbu))
    | (at_builtin; have _t := hown1; clear _t; have _t := PG2; clear _t; go_must (have hsr := hX.below hanch; obtain ⟨i0, hi, hz0, hz1, hz2⟩ := info_parts info5; refine wpl_append rfl (.tmp 78) (.tmp 79) 23 rfl .u8 _ 5 1 i0 (.int .u8 0) Try.underlying23 hi hz0 hz1 hz2 rfl _ _ [] X rfl rfl hown1 hsr J1 J2 hub ?_; clear hi hz0 hz1 hz2; intro v9 u hown2 hgu; rw [List.nil_append] at hown2; have hanch1 := hanch.grown hgu hanch.size (fun q e => (hown1.lt q e).1); have hub1 := Nat.le_trans hub hgu.size; clear hanch hub hsr hown1 hgu; have hanch := hanch1; have hub := hub1; clear hanch1 hub1))
    | (at_builtin; have _t := hown2; clear _t; have _t := PG2; clear _t; go_must (have hsr := hY.below hanch; obtain ⟨i0, hi, hz0, hz1, hz2⟩ := info_parts info5; refine wpl_append rfl (.tmp 80) (.tmp 81) 23 rfl .u8 _ 5 1 i0 (.int .u8 0) Try.underlying23 hi hz0 hz1 hz2 rfl _ _ X Y rfl rfl hown2 hsr J3 J4 hub ?_; clear hi hz0 hz1 hz2; intro v9 u hown3 hgu; have hanch1 := hanch.grown hgu hanch.size (fun q e => (hown2.lt q e).1); have hub1 := Nat.le_trans hub hgu.size; clear hanch hub hsr hown2 hgu; have hanch := hanch1; have hub := hub1; clear hanch1 hub1))
    | (go_at_call 12; have _t := PG2; clear _t; go_must (refine (PG2.out _ _ hown3.reads).mono ?_; clear PG2; rintro e u ⟨w6, rfl, hw6, hbu⟩; have hx1 := hx.trans (hanch.mono hx.size); clear hx; have hx := hx1; clear hx1; clear hanch; clear hown3 hub hX hY; have hx1 := hx.trans (hbu.mono hx.size); clear hx; have hx := hx1; clear hx1; have hl2 := hw6.reads; obtain ⟨pg, cg, rfl, _, _⟩ := hl2.shape; clear hw6 hbu))
    | (go_at_call 9; have _t := PO3; clear _t; go_must (refine (PO3.out _ (HR1.out.below hx)).mono ?_; clear PO3; rintro e u ⟨w7, rfl, hownL, hbu⟩; have hanch := hbu; have hub := hbu.size; have hwB := hx.size; clear hbu))
    | (at_builtin; have _t := hownL; clear _t; go_must (have hxu := hx.trans (hanch.mono hx.size); obtain ⟨i41, z41, i1, i2, i3, i4, i5⟩ := info41; refine wpl_wanted (by rfl) ?_; refine wpl_appendRL rfl (.tmp 92) (.tmp 93) 22 rfl _ 41 40 i41 z41 Try.underlying22 i1 i2 i3 i4 i5 _ _ al bl w rfl rfl hownL HR2.out hxu hwB J5 J6 hub ?_; clear i1 i2 i3 i4 i5; intro v8 u hv8 hgu; rw [HAB.out] at hv8; have hanch1 := hanch.grown hgu hanch.size (fun q e => (hownL.lt q e).1); clear hanch hownL hgu hxu hub hwB; have hanch := hanch1; clear hanch1))
    | (go_at_call 14; have _t := SA2; clear _t; go_must (refine (SA2.out _ _ _ (hl2.below hanch) hv8.reads).mono ?_; clear SA2; rintro e u ⟨rfl, hbu⟩; have hx1 := hx.trans (hanch.mono hx.size); clear hx; have hx := hx1; clear hx1; clear hanch; have hx1 := hx.trans (hbu.mono hx.size); clear hx; have hx := hx1; clear hx1; clear hl2 hv8 hbu))
    | ((with_reducible refine wpl_empty rfl 23 5 rfl .u8 (fun _ => by kernel_rfl) ?_); have _t := PG3; clear _t; go_must (intro u hown1 hbu hsu; have HSU := Lib.hid hsu; have hanch := hbu; have hub := hbu.size; clear hsu HSU hbu))
    | (at_builtin; have _t := hown1; clear _t; have _t := PG3; clear _t; go_must (have hsr := (HR3.out.below hx).below hanch; obtain ⟨i0, hi, hz0, hz1, hz2⟩ := info_parts info5; refine wpl_append rfl (.tmp 99) (.tmp 100) 23 rfl .u8 _ 5 1 i0 (.int .u8 0) Try.underlying23 hi hz0 hz1 hz2 rfl _ _ [] xs rfl rfl hown1 hsr K1 K2 hub ?_; clear hi hz0 hz1 hz2; intro v9 u hown2 hgu; rw [List.nil_append] at hown2; have hanch1 := hanch.grown hgu hanch.size (fun q e => (hown1.lt q e).1); have hub1 := Nat.le_trans hub hgu.size; clear hanch hub hsr hown1 hgu; have hanch := hanch1; have hub := hub1; clear hanch1 hub1))
    | (go_at_call 12; have _t := PG3; clear _t; go_must (refine (PG3.out _ _ hown2.reads).mono ?_; clear PG3; rintro e u ⟨w6, rfl, hw6, hbu⟩; have hx1 := hx.trans (hanch.mono hx.size); clear hx; have hx := hx1; clear hx1; clear hanch; clear hown2 hub; have hx1 := hx.trans (hbu.mono hx.size); clear hx; have hx := hx1; clear hx1; have hl3 := hw6.reads; obtain ⟨pl, cl, rfl, _, _⟩ := hl3.shape; clear hw6 hbu)))
  go_ret
  exact ⟨rfl, hx⟩
set_option maxRecDepth 100000 in
set_option maxHeartbeats 800000 in
theorem back_F1 (v v' v2 : Value) (al bl : List A) (xs : List Int) (Y : List Int) (L : List A) (kk : Int) (w : World) (hr1 : ReadsL w v al) (hr2 : ReadsL w v' bl) (hr3 : Reads .u8 w v2 xs) (hok1 : ∀ a ∈ al, a.ok) (hok2 : ∀ a ∈ bl, a.ok) (hd1 : ∀ a ∈ al, a.data.length ≤ 140737488351232) (hd2 : ∀ a ∈ bl, a.data.length ≤ 140737488351232) (hwf : ∀ x ∈ xs, 0 ≤ x ∧ x ≤ 255) (hb : xs.length ≤ 140737488351232) (he : putOf al = ([], 4)) (hf : putOf bl = (Y, 0)) (hg : getOf xs = (L, kk, 0)) :
    Calls Try.prog 5 #[v, v', v2] w fun e w' => e = .returned (.bool true) ∧ Below w.heap.size w w' := by
  obtain ⟨p1, c1, rfl, q11, q12⟩ := hr1.shape
  obtain ⟨p2, c2, rfl, q21, q22⟩ := hr2.shape
  obtain ⟨p3, c3, rfl, q31, q32⟩ := shapeN hr3
  have PO1 := Lib.hid (own _ al w hr1 (fun a ha => by have := hd1 a ha; omega))
  have PO2 := Lib.hid (fun u (h : ReadsL u (.slice p2 bl.length c2) bl) => own _ bl u h (fun a ha => by have := hd2 a ha; omega))
  have PP1 := Lib.hid (fun v u (h : ReadsL u v (al.take 200)) => by have := avpPut v (al.take 200) u h (fun a ha => ⟨hok1 a (List.mem_of_mem_take ha), by have := hd1 a (List.mem_of_mem_take ha); omega⟩); rwa [putOf_take, he] at this)
  have PP2 := Lib.hid (fun v u (h : ReadsL u v (bl.take 200)) => by have := avpPut v (bl.take 200) u h (fun a ha => ⟨hok2 a (List.mem_of_mem_take ha), by have := hd2 a (List.mem_of_mem_take ha); omega⟩); rwa [putOf_take, hf] at this)
  obtain ⟨y1, y2, y3, y4, y5⟩ := put_ok hf hok2
  have PG3 := Lib.hid (fun v u (h : Reads .u8 u v xs) => by have := avpGet v xs u h hwf; rwa [hg] at this)
  obtain ⟨Z, z1, z2, z3, z4⟩ := got_ok hwf hg
  obtain ⟨t1, t2, t3, t4, t5⟩ := put_ok z1 z3
  have PP3 := Lib.hid (fun v u (h : ReadsL u v L) => by have := avpPut v L u h (fun a ha => ⟨z3 a ha, by have := z4 a ha; omega⟩); rwa [z1] at this)
  have PG4 := Lib.hid (fun v u (h : Reads .u8 u v Z) => by have := avpGet v Z u h t4; rwa [t5] at this)
  have SA3 := Lib.hid (fun v v' u (h : ReadsL u v L) (h' : ReadsL u v' L) => sameAll v v' L L u h h' z3 z3)
  have hzl : ((Z.length : Int) == xs.length) = true := by rw [z2]; simp
  have hg0b : True := trivial
  clear z1 z2 z3 z4 t2 t4 t5
  have HR1 := Lib.hid hr1
  have HR2 := Lib.hid hr2
  have HR3 := Lib.hid hr3
  have K1 : ([] : List Int).length + xs.length ≤ maxLen := by simp [maxLen]; omega
  have K2 : (([] : List Int).length + xs.length) * 1 ≤ 140737488355328 := by simp; omega
  have q13 : al.length ≤ 9223372036854775807 := by unfold maxLen at q12; omega
  have q23 : bl.length ≤ 9223372036854775807 := by unfold maxLen at q22; omega
  have hyl : (Y.length : Int) ≤ 4096 := by omega
  clear hr1 hr2 hr3 hok1 hok2 hd1 hd2 hwf he hf hg y2 y4 y5
  have hx := Below.refl w.heap.size w
  go_enter Try.func5, Try.ntmps5
  go_wp2_with (first
    | (go_at_call 9; have _t := PO1; clear _t; go_must (refine PO1.out.mono ?_; clear PO1; rintro e u ⟨w1, rfl, hw1, hbu⟩; have hx1 := hx.trans (hbu.mono hx.size); clear hx; have hx := hx1; clear hx1; have hl1 := hw1.reads; clear hw1 hbu))
    | (go_at_call 8; have _t := PP1; clear _t; go_must (refine (PP1.out _ _ hl1).mono ?_; clear PP1; rintro e u ⟨w2, rfl, hw2, hbu⟩; have hx1 := hx.trans (hbu.mono hx.size); clear hx; have hx := hx1; clear hx1; obtain ⟨px, cx, rfl, _, _⟩ := shapeN hw2.reads; have hX := hw2.reads; clear hl1 hw2 hbu))
    | (go_at_call 9; have _t := PO2; clear _t; go_must (refine (PO2.out _ (HR2.out.below hx)).mono ?_; clear PO2; rintro e u ⟨w3, rfl, hw3, hbu⟩; have hx1 := hx.trans (hbu.mono hx.size); clear hx; have hx := hx1; clear hx1; have hl1 := hw3.reads; have hX1 := hX.below hbu; clear hX; have hX := hX1; clear hX1; clear hw3 hbu))
    | (go_at_call 8; have _t := PP2; clear _t; go_must (refine (PP2.out _ _ hl1).mono ?_; clear PP2; rintro e u ⟨w4, rfl, hw4, hbu⟩; have hx1 := hx.trans (hbu.mono hx.size); clear hx; have hx := hx1; clear hx1; obtain ⟨py, cy, rfl, _, _⟩ := shapeN hw4.reads; have hY := hw4.reads; have hX1 := hX.below hbu; clear hX; have hX := hX1; clear hX1; clear hl1 hw4 hbu))
    | (go_at_call 11; go_must (refine (answers _).mono ?_; rintro e u ⟨rfl, hbu⟩; have hx1 := hx.trans (hbu.mono hx.size); clear hx; have hx := hx1; clear hx1; have hX1 := hX.below hbu; clear hX; have hX := hX1; clear hX1; have hY1 := hY.below hbu; clear hY; have hY := hY1; clear hY1; clear hbu))
    | ((with_reducible refine wpl_empty rfl 23 5 rfl .u8 (fun _ => by kernel_rfl) ?_); have _t := PG3; clear _t; go_must (intro u hown1 hbu hsu; have HSU := Lib.hid hsu; have hanch := hbu; have hub := hbu.size; clear hsu HSU hbu))
    | (at_builtin; have _t := hown1; clear _t; have _t := PG3; clear _t; go_must (have hsr := (HR3.out.below hx).below hanch; obtain ⟨i0, hi, hz0, hz1, hz2⟩ := info_parts info5; refine wpl_append rfl (.tmp 99) (.tmp 100) 23 rfl .u8 _ 5 1 i0 (.int .u8 0) Try.underlying23 hi hz0 hz1 hz2 rfl _ _ [] xs rfl rfl hown1 hsr K1 K2 hub ?_; clear hi hz0 hz1 hz2; intro v9 u hown2 hgu; rw [List.nil_append] at hown2; have hanch1 := hanch.grown hgu hanch.size (fun q e => (hown1.lt q e).1); have hub1 := Nat.le_trans hub hgu.size; clear hanch hub hsr hown1 hgu; have hanch := hanch1; have hub := hub1; clear hanch1 hub1))
    | (go_at_call 12; have _t := PG3; clear _t; go_must (refine (PG3.out _ _ hown2.reads).mono ?_; clear PG3; rintro e u ⟨w6, rfl, hw6, hbu⟩; have hx1 := hx.trans (hanch.mono hx.size); clear hx; have hx := hx1; clear hx1; clear hanch; clear hown2 hub; have hx1 := hx.trans (hbu.mono hx.size); clear hx; have hx := hx1; clear hx1; have hl3 := hw6.reads; obtain ⟨pl, cl, rfl, _, _⟩ := hl3.shape; clear hw6 hbu))
    | (go_at_call 8; have _t := PP3; clear _t; go_must (refine (PP3.out _ _ hl3).mono ?_; clear PP3; rintro e u ⟨w4, rfl, hw4, hbu⟩; have hx1 := hx.trans (hbu.mono hx.size); clear hx; have hx := hx1; clear hx1; have hl31 := hl3.below hbu; clear hl3; have hl3 := hl31; clear hl31; obtain ⟨pz, cz, rfl, _, _⟩ := shapeN hw4.reads; have hZ := hw4.reads; clear hw4 hbu))
    | (go_at_call 12; have _t := PG4; clear _t; go_must (refine (PG4.out _ _ hZ).mono ?_; clear PG4; rintro e u ⟨w6, rfl, hw6, hbu⟩; have hx1 := hx.trans (hbu.mono hx.size); clear hx; have hx := hx1; clear hx1; have hl31 := hl3.below hbu; clear hl3; have hl3 := hl31; clear hl31; have hl4 := hw6.reads; clear hw6 hbu hZ))
    | (go_at_call 14; have _t := SA3; clear _t; go_must (refine (SA3.out _ _ _ hl3 hl4).mono ?_; clear SA3; rintro e u ⟨rfl, hbu⟩; have hx1 := hx.trans (hbu.mono hx.size); clear hx; have hx := hx1; clear hx1; clear hl3 hl4 hbu)))
  go_ret
  exact ⟨rfl, hx⟩
set_option maxRecDepth 100000 in
set_option maxHeartbeats 800000 in
theorem back_F0 (v v' v2 : Value) (al bl : List A) (xs : List Int) (Y : List Int) (kk gg : Int) (w : World) (hr1 : ReadsL w v al) (hr2 : ReadsL w v' bl) (hr3 : Reads .u8 w v2 xs) (hok1 : ∀ a ∈ al, a.ok) (hok2 : ∀ a ∈ bl, a.ok) (hd1 : ∀ a ∈ al, a.data.length ≤ 140737488351232) (hd2 : ∀ a ∈ bl, a.data.length ≤ 140737488351232) (hwf : ∀ x ∈ xs, 0 ≤ x ∧ x ≤ 255) (hb : xs.length ≤ 140737488351232) (he : putOf al = ([], 4)) (hf : putOf bl = (Y, 0)) (hg : getOf xs = ([], kk, gg)) (hg0 : gg ≠ 0) :
    Calls Try.prog 5 #[v, v', v2] w fun e w' => e = .returned (.bool true) ∧ Below w.heap.size w w' := by
  obtain ⟨p1, c1, rfl, q11, q12⟩ := hr1.shape
  obtain ⟨p2, c2, rfl, q21, q22⟩ := hr2.shape
  obtain ⟨p3, c3, rfl, q31, q32⟩ := shapeN hr3
  have PO1 := Lib.hid (own _ al w hr1 (fun a ha => by have := hd1 a ha; omega))
  have PO2 := Lib.hid (fun u (h : ReadsL u (.slice p2 bl.length c2) bl) => own _ bl u h (fun a ha => by have := hd2 a ha; omega))
  have PP1 := Lib.hid (fun v u (h : ReadsL u v (al.take 200)) => by have := avpPut v (al.take 200) u h (fun a ha => ⟨hok1 a (List.mem_of_mem_take ha), by have := hd1 a (List.mem_of_mem_take ha); omega⟩); rwa [putOf_take, he] at this)
  have PP2 := Lib.hid (fun v u (h : ReadsL u v (bl.take 200)) => by have := avpPut v (bl.take 200) u h (fun a ha => ⟨hok2 a (List.mem_of_mem_take ha), by have := hd2 a (List.mem_of_mem_take ha); omega⟩); rwa [putOf_take, hf] at this)
  obtain ⟨y1, y2, y3, y4, y5⟩ := put_ok hf hok2
  have PG3 := Lib.hid (fun v u (h : Reads .u8 u v xs) => by have := avpGet v xs u h hwf; rwa [hg] at this)
  have hg0b : (gg != 0) = true := by simpa using hg0
  have hg0c : (gg == 0) = false := by simpa using hg0
  clear hg0
  have HR1 := Lib.hid hr1
  have HR2 := Lib.hid hr2
  have HR3 := Lib.hid hr3
  have K1 : ([] : List Int).length + xs.length ≤ maxLen := by simp [maxLen]; omega
  have K2 : (([] : List Int).length + xs.length) * 1 ≤ 140737488355328 := by simp; omega
  have q13 : al.length ≤ 9223372036854775807 := by unfold maxLen at q12; omega
  have q23 : bl.length ≤ 9223372036854775807 := by unfold maxLen at q22; omega
  have hyl : (Y.length : Int) ≤ 4096 := by omega
  clear hr1 hr2 hr3 hok1 hok2 hd1 hd2 hwf he hf hg y2 y4 y5
  have hx := Below.refl w.heap.size w
  go_enter Try.func5, Try.ntmps5
  go_wp2_with (first
    | (go_at_call 9; have _t := PO1; clear _t; go_must (refine PO1.out.mono ?_; clear PO1; rintro e u ⟨w1, rfl, hw1, hbu⟩; have hx1 := hx.trans (hbu.mono hx.size); clear hx; have hx := hx1; clear hx1; have hl1 := hw1.reads; clear hw1 hbu))
    | (go_at_call 8; have _t := PP1; clear _t; go_must (refine (PP1.out _ _ hl1).mono ?_; clear PP1; rintro e u ⟨w2, rfl, hw2, hbu⟩; have hx1 := hx.trans (hbu.mono hx.size); clear hx; have hx := hx1; clear hx1; obtain ⟨px, cx, rfl, _, _⟩ := shapeN hw2.reads; have hX := hw2.reads; clear hl1 hw2 hbu))
    | (go_at_call 9; have _t := PO2; clear _t; go_must (refine (PO2.out _ (HR2.out.below hx)).mono ?_; clear PO2; rintro e u ⟨w3, rfl, hw3, hbu⟩; have hx1 := hx.trans (hbu.mono hx.size); clear hx; have hx := hx1; clear hx1; have hl1 := hw3.reads; have hX1 := hX.below hbu; clear hX; have hX := hX1; clear hX1; clear hw3 hbu))
    | (go_at_call 8; have _t := PP2; clear _t; go_must (refine (PP2.out _ _ hl1).mono ?_; clear PP2; rintro e u ⟨w4, rfl, hw4, hbu⟩; have hx1 := hx.trans (hbu.mono hx.size); clear hx; have hx := hx1; clear hx1; obtain ⟨py, cy, rfl, _, _⟩ := shapeN hw4.reads; have hY := hw4.reads; have hX1 := hX.below hbu; clear hX; have hX := hX1; clear hX1; clear hl1 hw4 hbu))
    | (go_at_call 11; go_must (refine (answers _).mono ?_; rintro e u ⟨rfl, hbu⟩; have hx1 := hx.trans (hbu.mono hx.size); clear hx; have hx := hx1; clear hx1; have hX1 := hX.below hbu; clear hX; have hX := hX1; clear hX1; have hY1 := hY.below hbu; clear hY; have hY := hY1; clear hY1; clear hbu))
    | ((with_reducible refine wpl_empty rfl 23 5 rfl .u8 (fun _ => by kernel_rfl) ?_); have _t := PG3; clear _t; go_must (intro u hown1 hbu hsu; have HSU := Lib.hid hsu; have hanch := hbu; have hub := hbu.size; clear hsu HSU hbu))
    | (at_builtin; have _t := hown1; clear _t; have _t := PG3; clear _t; go_must (have hsr := (HR3.out.below hx).below hanch; obtain ⟨i0, hi, hz0, hz1, hz2⟩ := info_parts info5; refine wpl_append rfl (.tmp 99) (.tmp 100) 23 rfl .u8 _ 5 1 i0 (.int .u8 0) Try.underlying23 hi hz0 hz1 hz2 rfl _ _ [] xs rfl rfl hown1 hsr K1 K2 hub ?_; clear hi hz0 hz1 hz2; intro v9 u hown2 hgu; rw [List.nil_append] at hown2; have hanch1 := hanch.grown hgu hanch.size (fun q e => (hown1.lt q e).1); have hub1 := Nat.le_trans hub hgu.size; clear hanch hub hsr hown1 hgu; have hanch := hanch1; have hub := hub1; clear hanch1 hub1))
    | (go_at_call 12; have _t := PG3; clear _t; go_must (refine (PG3.out _ _ hown2.reads).mono ?_; clear PG3; rintro e u ⟨w6, rfl, hw6, hbu⟩; have hx1 := hx.trans (hanch.mono hx.size); clear hx; have hx := hx1; clear hx1; clear hanch; clear hown2 hub; have hx1 := hx.trans (hbu.mono hx.size); clear hx; have hx := hx1; clear hx1; have hl3 := hw6.reads; obtain ⟨pl, cl, rfl, _, _⟩ := hl3.shape; clear hw6 hbu)))
  go_ret
  exact ⟨rfl, hx⟩
theorem back (v v' v2 : Value) (al bl : List A) (xs : List Int) (w : World) (hr1 : ReadsL w v al) (hr2 : ReadsL w v' bl) (hr3 : Reads .u8 w v2 xs) (hok1 : ∀ a ∈ al, a.ok) (hok2 : ∀ a ∈ bl, a.ok) (hd1 : ∀ a ∈ al, a.data.length ≤ 140737488351232) (hd2 : ∀ a ∈ bl, a.data.length ≤ 140737488351232) (hwf : ∀ x ∈ xs, 0 ≤ x ∧ x ≤ 255) (hb : xs.length ≤ 140737488351232) :
    Calls Try.prog 5 #[v, v', v2] w fun e w' => e = .returned (.bool true) ∧ Below w.heap.size w w' := by
  obtain ⟨L, kk, gg, hg⟩ : ∃ L kk gg, getOf xs = (L, kk, gg) := ⟨_, _, _, rfl⟩
  by_cases hg0 : gg = 0
  · subst hg0
    rcases put_no al with ⟨X, he⟩ | he
    · rcases put_no bl with ⟨Y, hf⟩ | hf
      · by_cases hs : al.length + bl.length ≤ 64
        · by_cases ht : X.length + Y.length ≤ 4096
          · exact back_E1 v v' v2 al bl xs X Y L kk w hr1 hr2 hr3 hok1 hok2 hd1 hd2 hwf hb he hf hs ht hg
          · exact back_D1 v v' v2 al bl xs X Y L kk w hr1 hr2 hr3 hok1 hok2 hd1 hd2 hwf hb he hf hs (by omega) hg
        · exact back_C1 v v' v2 al bl xs X Y L kk w hr1 hr2 hr3 hok1 hok2 hd1 hd2 hwf hb he hf (by omega) hg
      · exact back_B1 v v' v2 al bl xs X L kk w hr1 hr2 hr3 hok1 hok2 hd1 hd2 hwf hb he hf hg
    · rcases put_no bl with ⟨Y, hf⟩ | hf
      · exact back_F1 v v' v2 al bl xs Y L kk w hr1 hr2 hr3 hok1 hok2 hd1 hd2 hwf hb he hf hg
      · exact back_A1 v v' v2 al bl xs L kk w hr1 hr2 hr3 hok1 hok2 hd1 hd2 hwf hb he hf hg
  · obtain rfl := getOf_err hg hg0
    rcases put_no al with ⟨X, he⟩ | he
    · rcases put_no bl with ⟨Y, hf⟩ | hf
      · by_cases hs : al.length + bl.length ≤ 64
        · by_cases ht : X.length + Y.length ≤ 4096
          · exact back_E0 v v' v2 al bl xs X Y kk gg w hr1 hr2 hr3 hok1 hok2 hd1 hd2 hwf hb he hf hs ht hg hg0
          · exact back_D0 v v' v2 al bl xs X Y kk gg w hr1 hr2 hr3 hok1 hok2 hd1 hd2 hwf hb he hf hs (by omega) hg hg0
        · exact back_C0 v v' v2 al bl xs X Y kk gg w hr1 hr2 hr3 hok1 hok2 hd1 hd2 hwf hb he hf (by omega) hg hg0
      · exact back_B0 v v' v2 al bl xs X kk gg w hr1 hr2 hr3 hok1 hok2 hd1 hd2 hwf hb he hf hg hg0
    · rcases put_no bl with ⟨Y, hf⟩ | hf
      · exact back_F0 v v' v2 al bl xs Y kk gg w hr1 hr2 hr3 hok1 hok2 hd1 hd2 hwf hb he hf hg hg0
      · exact back_A0 v v' v2 al bl xs kk gg w hr1 hr2 hr3 hok1 hok2 hd1 hd2 hwf hb he hf hg hg0
end Go.Proofs.Ytjfponhdlfhmbaa.Avp
