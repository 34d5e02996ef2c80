/-
  msg.Code and the reference's Code; the law MsgFinds: the walk.
-/
import Derived.Test.YtcekkppjalipfaaFind1
import Derived.Deep.Cut
namespace Go.Proofs.Ytcekkppjalipfaa.Avp
open Go.RowKit Mem Cells Avps Wire Ops
set_option linter.unusedVariables false
set_option linter.unusedSimpArgs false

def codeOf (al : List A) : Int := if (findOf 268 al).1.length = 4 then getN (findOf 268 al).1 0 4 else 0
theorem findOf_wf (code : Int) (al : List A) (h : ∀ a ∈ al, a.ok) : ∀ x ∈ (findOf code al).1, 0 ≤ x ∧ x ≤ 255 := by
  unfold findOf
  cases hx : al[place code al]? with
  | none => exact fun x hx => by cases hx
  | some a => exact (h a (List.mem_of_getElem? hx)).2.2
set_option maxRecDepth 100000 in
set_option maxHeartbeats 1600000 in
theorem msgCode (m : M) (p : Option Addr) (c : Nat) (w : World) (hr : ReadsL w (.slice p m.avps.length c) m.avps) (hok : ∀ a ∈ m.avps, a.ok) (hd : ∀ a ∈ m.avps, a.data.length ≤ 140737488355300) :
    Calls Try.prog 20 #[.agg (rowM m (.slice p m.avps.length c))] w fun e w' => e = .returned (.int .i64 (codeOf m.avps)) ∧ Below w.heap.size w w' := by
  have hone : (Value.slice p m.avps.length c).oneCell' = true := rfl
  have PF := Lib.hid (fun u (h : ReadsL u (.slice p m.avps.length c) m.avps) => msgFind m p c 268 u h hd)
  have hwf := findOf_wf 268 m.avps hok
  have HC := Lib.hid (rfl : codeOf m.avps = codeOf m.avps)
  unfold codeOf at HC
  obtain ⟨⟨Y, b⟩, hY⟩ : ∃ R, findOf 268 m.avps = R := ⟨_, rfl⟩
  rw [hY] at PF hwf
  have HC : Hid (codeOf m.avps = if Y.length = 4 then getN Y 0 4 else 0) := Lib.hid (by unfold codeOf; rw [hY])
  have HR := Lib.hid hr
  clear hr hok hd hY
  by_cases h4 : Y.length = 4
  · have PG := Lib.hid (fun v u (h : Reads .u8 u v Y) => get v Y 0 4 u h hwf (by omega) (by omega) (by omega))
    have hg := getN4 Y hwf 0
    have HC2 := Lib.hid (HC.out.trans (if_pos h4))
    obtain ⟨g, hgg⟩ : ∃ g, getN Y 0 4 = g := ⟨_, rfl⟩
    rw [hgg] at PG hg HC2
    rw [h4] at PG
    have H4 := Lib.hid h4
    have s1 : IntKind.i64.wrap g = g := IntWalk.i64_in _ (by omega)
    clear h4 hwf hgg
    go_enter Try.func20, Try.ntmps20
    go_wp2_with (first
      | ((with_reducible refine wpl_boxAt rfl 25 (.tmp 0) rfl (rowM m (.slice p m.avps.length c)) ?_ ?_); rfl; go_must (intro w1 hat1 hb1 hs1; clear hs1))
      | ((with_reducible refine wpl_loadAt rfl 25 (.tmp 1) rfl w.heap.size 25 (rowM m (.slice p m.avps.length c)) hat1 _ Try.underlying25 rfl (by kernel_rfl) ?_ ?_); rfl)
      | (go_at_call 18; go_must (refine (PF.out _ (HR.out.below hb1)).mono ?_; rintro e u ⟨v, rfl, hrow, hb⟩; have hu := hb1.trans (hb.mono hb1.size); have hx := hrow.reads; clear hrow; obtain ⟨pv, cv, rfl, _⟩ := id hx; rw [H4.out] at hx ⊢))
      | (go_at_call 38; go_must (refine (PG.out _ _ hx).mono ?_; rintro e u2 ⟨rfl, hb3⟩; have hu2 := hu.trans (hb3.mono hu.size))))
    go_ret
    exact ⟨by rw [HC2.out] <;> rfl, hu2⟩
  · have HC2 := Lib.hid (HC.out.trans (if_neg h4))
    have h4b : ((Y.length : Int) == 4) = false := by simp; omega
    clear h4 hwf
    go_enter Try.func20, Try.ntmps20
    go_wp2_with (first
      | ((with_reducible refine wpl_boxAt rfl 25 (.tmp 0) rfl (rowM m (.slice p m.avps.length c)) ?_ ?_); rfl; go_must (intro w1 hat1 hb1 hs1; clear hs1))
      | ((with_reducible refine wpl_loadAt rfl 25 (.tmp 1) rfl w.heap.size 25 (rowM m (.slice p m.avps.length c)) hat1 _ Try.underlying25 rfl (by kernel_rfl) ?_ ?_); rfl)
      | (go_at_call 18; go_must (refine (PF.out _ (HR.out.below hb1)).mono ?_; rintro e u ⟨v, rfl, hrow, hb⟩; have hu := hb1.trans (hb.mono hb1.size); have hx := hrow.reads; clear hrow; obtain ⟨pv, cv, rfl, _⟩ := id hx)))
    go_ret
    exact ⟨by rw [HC2.out] <;> rfl, hu⟩
set_option maxRecDepth 100000 in
set_option maxHeartbeats 1600000 in
theorem refCode (m : M) (p : Option Addr) (c : Nat) (w : World) (hr : ReadsL w (.slice p m.avps.length c) m.avps) (hok : ∀ a ∈ m.avps, a.ok) (hd : ∀ a ∈ m.avps, a.data.length ≤ 140737488355300) :
    Calls Try.prog 21 #[.agg (rowM m (.slice p m.avps.length c))] w fun e w' => e = .returned (.int .i64 (codeOf m.avps)) ∧ Below w.heap.size w w' := by
  have hone : (Value.slice p m.avps.length c).oneCell' = true := rfl
  have PF := Lib.hid (fun u (h : ReadsL u (.slice p m.avps.length c) m.avps) => refFind m p c 268 u h hd)
  have hwf := findOf_wf 268 m.avps hok
  obtain ⟨⟨Y, b⟩, hY⟩ : ∃ R, findOf 268 m.avps = R := ⟨_, rfl⟩
  rw [hY] at PF hwf
  have HC : Hid (codeOf m.avps = if Y.length = 4 then getN Y 0 4 else 0) := Lib.hid (by unfold codeOf; rw [hY])
  have HR := Lib.hid hr
  clear hr hok hd hY
  by_cases h4 : Y.length = 4
  · have PG := Lib.hid (fun v u (h : Reads .u8 u v Y) => refNum v Y 0 4 u h hwf (by omega) (by omega) (by omega) (by have := getN4 Y hwf 0; omega))
    have HC2 := Lib.hid (HC.out.trans (if_pos h4))
    obtain ⟨g, hgg⟩ : ∃ g, getN Y 0 4 = g := ⟨_, rfl⟩
    rw [hgg] at PG HC2
    have H4 := Lib.hid h4
    clear h4 hwf hgg
    go_enter Try.func21, Try.ntmps21
    go_wp2_with (first
      | ((with_reducible refine wpl_boxAt rfl 25 (.tmp 0) rfl (rowM m (.slice p m.avps.length c)) ?_ ?_); rfl; go_must (intro w1 hat1 hb1 hs1; clear hs1))
      | ((with_reducible refine wpl_loadAt rfl 25 (.tmp 1) rfl w.heap.size 25 (rowM m (.slice p m.avps.length c)) hat1 _ Try.underlying25 rfl (by kernel_rfl) ?_ ?_); rfl)
      | (go_at_call 19; go_must (refine (PF.out _ (HR.out.below hb1)).mono ?_; rintro e u ⟨v, rfl, hrow, hb⟩; have hu := hb1.trans (hb.mono hb1.size); have hx := hrow.reads; clear hrow; obtain ⟨pv, cv, rfl, _⟩ := id hx; rw [H4.out] at hx ⊢))
      | (go_at_call 39; go_must (refine (PG.out _ _ hx).mono ?_; rintro e u2 ⟨rfl, hb3⟩; have hu2 := hu.trans (hb3.mono hu.size))))
    go_ret
    exact ⟨by rw [HC2.out] <;> rfl, hu2⟩
  · have HC2 := Lib.hid (HC.out.trans (if_neg h4))
    have h4b : ((Y.length : Int) == 4) = false := by simp; omega
    clear h4 hwf
    go_enter Try.func21, Try.ntmps21
    go_wp2_with (first
      | ((with_reducible refine wpl_boxAt rfl 25 (.tmp 0) rfl (rowM m (.slice p m.avps.length c)) ?_ ?_); rfl; go_must (intro w1 hat1 hb1 hs1; clear hs1))
      | ((with_reducible refine wpl_loadAt rfl 25 (.tmp 1) rfl w.heap.size 25 (rowM m (.slice p m.avps.length c)) hat1 _ Try.underlying25 rfl (by kernel_rfl) ?_ ?_); rfl)
      | (go_at_call 19; go_must (refine (PF.out _ (HR.out.below hb1)).mono ?_; rintro e u ⟨v, rfl, hrow, hb⟩; have hu := hb1.trans (hb.mono hb1.size); have hx := hrow.reads; clear hrow; obtain ⟨pv, cv, rfl, _⟩ := id hx)))
    go_ret
    exact ⟨by rw [HC2.out] <;> rfl, hu⟩

/-- The slot holds this message, wherever its list lies. -/
def msgP (m : M) : Mono.Prp := ⟨fun v u => ∃ p c, v = .agg (rowM m (.slice p m.avps.length c)) ∧ ReadsL u (.slice p m.avps.length c) m.avps, fun _ _ _ ⟨p, c, h1, h2⟩ hb => ⟨p, c, h1, h2.below hb⟩⟩
set_option maxRecDepth 100000 in
set_option maxHeartbeats 1600000 in
theorem finds (m : M) (p : Option Addr) (c : Nat) (code : Int) (w : World) (hr : ReadsL w (.slice p m.avps.length c) m.avps) (hok : m.ok) (hd : ∀ a ∈ m.avps, a.data.length ≤ 140737488351232) :
    Calls Try.prog 6 #[.agg (rowM m (.slice p m.avps.length c)), .int .u32 code] w fun e w' => e = .returned (.bool true) ∧ Below w.heap.size w w' := by
  have hone : (Value.slice p m.avps.length c).oneCell' = true := rfl
  have HR := Lib.hid hr
  by_cases hbig : 200 < m.avps.length
  · obtain ⟨n, hn⟩ : ∃ n, m.avps.length = n := ⟨_, rfl⟩
    rw [hn] at hbig HR ⊢
    have S1 := Lib.hid (rfl : w = w)
    clear hr hok hd hn
    go_enter Try.func6, Try.ntmps6
    go_wp2_with (first
      | ((with_reducible refine wpl_boxAt rfl 25 (.tmp 0) rfl (rowM m (.slice p n c)) ?_ ?_); rfl; go_must (intro w1 hat1 hb1 hs1; clear hs1))
      | (go_at_call 13; have _t := S1; clear _t; go_must (refine (answers _).mono ?_; rintro e w2 ⟨rfl, hb2⟩; have hu := hb1.trans (hb2.mono hb1.size); have c8 := (hat1.ext hb2).cell 8; simp [rowM] at c8; clear hat1 hb2 S1))
      | (go_at_call 13; go_must (refine (answers _).mono ?_; rintro e w3 ⟨rfl, hb3⟩; have hu3 := hu.trans (hb3.mono hu.size))))
    go_ret
    exact ⟨rfl, hu3⟩
  · have htk : m.avps.take 200 = m.avps := List.take_of_length_le (by omega)
    have PO := Lib.hid (fun u (h : ReadsL u (.slice p m.avps.length c) m.avps) => by have := own m p c u h (fun a ha => by have := hd a ha; omega); rwa [show ({ m with avps := m.avps.take 200 } : M) = m from by rw [htk]] at this)
    have PO2 := Lib.hid (fun q k u (h : ReadsL u (.slice q m.avps.length k) m.avps) => by have := own m q k u h (fun a ha => by have := hd a ha; omega); rwa [show ({ m with avps := m.avps.take 200 } : M) = m from by rw [htk]] at this)
    have PF := Lib.hid (fun q k u (h : ReadsL u (.slice q m.avps.length k) m.avps) => msgFind m q k code u h (fun a ha => by have := hd a ha; omega))
    have PK := Lib.hid (fun q k u (h : ReadsL u (.slice q m.avps.length k) m.avps) => refFind m q k code u h (fun a ha => by have := hd a ha; omega))
    have PC := Lib.hid (fun q k u (h : ReadsL u (.slice q m.avps.length k) m.avps) => msgCode m q k u h hok.2.2.2.2 (fun a ha => by have := hd a ha; omega))
    have PD := Lib.hid (fun q k u (h : ReadsL u (.slice q m.avps.length k) m.avps) => refCode m q k u h hok.2.2.2.2 (fun a ha => by have := hd a ha; omega))
    obtain ⟨⟨Y, b⟩, hY⟩ : ∃ R, findOf code m.avps = R := ⟨_, rfl⟩
    obtain ⟨C, hC⟩ : ∃ C, codeOf m.avps = C := ⟨_, rfl⟩
    rw [hY] at PF PK
    rw [hC] at PC PD
    clear hr hok hd htk hY hC
    go_enter Try.func6, Try.ntmps6
    go_wp2_with (first
      | ((with_reducible refine wpl_boxAt rfl 25 (.tmp 0) rfl (rowM m (.slice p m.avps.length c)) ?_ ?_); rfl; go_must (intro w1 hat hu hs1; clear hs1))
      | (go_at_call 13; go_must (refine (answers _).mono ?_; rintro e w2 ⟨rfl, hb⟩; have hu_ := hu.trans (hb.mono hu.size); have hat_ := hat.ext hb; clear hu hat; have hu := hu_; have hat := hat_; clear hu_ hat_ hb; have c8 := hat.cell 8; simp [rowM] at c8))
      | ((with_reducible refine wpl_loadAt rfl 25 (.tmp 2) rfl w.heap.size 25 (rowM m (.slice p m.avps.length c)) hat _ Try.underlying25 rfl (by kernel_rfl) ?_ ?_); rfl)
      | (go_at_call 11; go_must (refine (PO.out _ (HR.out.below hu)).mono ?_; rintro e u1 ⟨p1, n1, c1, rfl, hv, hb⟩; obtain ⟨_, _, ee, _⟩ := hv.reads.shape; cases ee; have hL1 := hv.reads; clear hv c8; have hu_ := hu.trans (hb.mono hu.size); have hat_ := hat.ext hb; clear hu hat; have hu := hu_; have hat := hat_; clear hu_ hat_ hb))
      | (go_at_call 18; go_must (refine (PF.out _ _ _ hL1).mono ?_; clear hL1; rintro e u2 ⟨v2, rfl, hrow, hb⟩; have hx1 := hrow.reads; clear hrow; have hu_ := hu.trans (hb.mono hu.size); have hat_ := hat.ext hb; clear hu hat; have hu := hu_; have hat := hat_; clear hu_ hat_ hb))
      | (go_at_call 19; go_must (refine (PK.out _ _ _ (HR.out.below hu)).mono ?_; rintro e u3 ⟨v3, rfl, hrow, hb⟩; have hx3 := hrow.reads; clear hrow; have hx2 := hx1.below hb; clear hx1; have hu_ := hu.trans (hb.mono hu.size); have hat_ := hat.ext hb; clear hu hat; have hu := hu_; have hat := hat_; clear hu_ hat_ hb)))
    have hu0 := hu
    refine Mono.wp_region_mono [some 31, some 32, some 33, some 34, some 35, some 36, some 37, some 38, some 39, some 40, some 41, some 42, some 43, some 44, some 45, some 46, some 47, some 48, some 4] [readsP .u8 Y, Mono.isV (.string (strOfNums (Y))), readsP .u8 Y, Mono.isV (.string (strOfNums (Y))), Mono.isV (.bool true), Mono.isV (.bool true), Mono.isV (.bool b), Mono.isV (.bool b), Mono.isV (.bool true), Mono.isV (.bool true), Mono.isV (.bool true), msgP m, msgP m, Mono.isV (.int .i64 C), msgP m, Mono.isV (.int .i64 C), Mono.isV (.bool true), Mono.isV (.bool true), Mono.isV (.bool true)] (by kernel_rfl) (by kernel_rfl) ?_ ?_
    · simp only [Mono.OpGoals, and_true]
      refine ⟨?_, ?_, ?_, ?_, ?_, ?_, ?_, ?_, ?_, ?_, ?_, ?_, ?_, ?_, ?_, ?_, ?_, ?_, ?_⟩
      · intro a u hbu hsu hdu
        have hux := hu.trans (hbu.mono hu.size); have r2 := hx2.below hbu; have r3 := hx3.below hbu
        refine Mono.if_want rfl ?_
        exact Mono.ok_move (.tmp 5) rfl (by rw [hsu 5 (by decide)]; exact r2)
      · intro a u hbu hsu hdu
        have hux := hu.trans (hbu.mono hu.size); have r2 := hx2.below hbu; have r3 := hx3.below hbu
        refine Mono.if_want rfl ?_
        exact Mono.ok_conv 26 9 (.tmp 31) rfl _ (string23 (Mono.dep_at hdu (i := 0) (d := 31) rfl rfl rfl)) rfl
      · intro a u hbu hsu hdu
        have hux := hu.trans (hbu.mono hu.size); have r2 := hx2.below hbu; have r3 := hx3.below hbu
        refine Mono.if_want rfl ?_
        exact Mono.ok_move (.tmp 7) rfl (by rw [hsu 7 (by decide)]; exact r3)
      · intro a u hbu hsu hdu
        have hux := hu.trans (hbu.mono hu.size); have r2 := hx2.below hbu; have r3 := hx3.below hbu
        refine Mono.if_want rfl ?_
        exact Mono.ok_conv 26 9 (.tmp 33) rfl _ (string23 (Mono.dep_at hdu (i := 2) (d := 33) rfl rfl rfl)) rfl
      · intro a u hbu hsu hdu
        have hux := hu.trans (hbu.mono hu.size); have r2 := hx2.below hbu; have r3 := hx3.below hbu
        refine Mono.if_want rfl ?_
        have z32 : a.eval (.tmp 32) = .string (strOfNums (Y)) := Mono.dep_at hdu (i := 1) (d := 32) rfl rfl rfl
        simp [Act.eval] at z32
        have z34 : a.eval (.tmp 34) = .string (strOfNums (Y)) := Mono.dep_at hdu (i := 3) (d := 34) rfl rfl rfl
        simp [Act.eval] at z34
        exact Mono.ok_val (.bool true) (by simp [execOp, z32, z34, go_sem]) rfl
      · intro a u hbu hsu hdu
        have hux := hu.trans (hbu.mono hu.size); have r2 := hx2.below hbu; have r3 := hx3.below hbu
        refine Mono.if_want rfl ?_
        exact Mono.ok_move (.tmp 35) rfl (Mono.dep_at hdu (i := 4) (d := 35) rfl rfl rfl)
      · intro a u hbu hsu hdu
        have hux := hu.trans (hbu.mono hu.size); have r2 := hx2.below hbu; have r3 := hx3.below hbu
        refine Mono.if_want (Mono.want_at (c := true) rfl rfl (Mono.dep_at hdu (i := 5) (d := 36) rfl rfl rfl) rfl) ?_
        exact Mono.ok_move (.tmp 6) rfl (hsu 6 (by decide))
      · intro a u hbu hsu hdu
        have hux := hu.trans (hbu.mono hu.size); have r2 := hx2.below hbu; have r3 := hx3.below hbu
        refine Mono.if_want (Mono.want_at (c := true) rfl rfl (Mono.dep_at hdu (i := 5) (d := 36) rfl rfl rfl) rfl) ?_
        exact Mono.ok_move (.tmp 8) rfl (hsu 8 (by decide))
      · intro a u hbu hsu hdu
        have hux := hu.trans (hbu.mono hu.size); have r2 := hx2.below hbu; have r3 := hx3.below hbu
        refine Mono.if_want (Mono.want_at (c := true) rfl rfl (Mono.dep_at hdu (i := 5) (d := 36) rfl rfl rfl) rfl) ?_
        have z37 : a.eval (.tmp 37) = .bool b := Mono.dep_at hdu (i := 6) (d := 37) rfl rfl rfl
        simp [Act.eval] at z37
        have z38 : a.eval (.tmp 38) = .bool b := Mono.dep_at hdu (i := 7) (d := 38) rfl rfl rfl
        simp [Act.eval] at z38
        exact Mono.ok_val (.bool true) (by simp [execOp, z37, z38, go_sem]) rfl
      · intro a u hbu hsu hdu
        have hux := hu.trans (hbu.mono hu.size); have r2 := hx2.below hbu; have r3 := hx3.below hbu
        refine Mono.if_want rfl ?_
        have z36 : a.eval (.tmp 36) = .bool true := Mono.dep_at hdu (i := 5) (d := 36) rfl rfl rfl
        simp [Act.eval] at z36
        have z39 : a.eval (.tmp 39) = .bool true := Mono.dep_at hdu (i := 8) (d := 39) rfl rfl rfl
        simp [Act.eval] at z39
        exact Mono.ok_val (.bool true) (by simp [execOp, z36, z39, go_sem]) rfl
      · intro a u hbu hsu hdu
        have hux := hu.trans (hbu.mono hu.size); have r2 := hx2.below hbu; have r3 := hx3.below hbu
        refine Mono.if_want rfl ?_
        exact Mono.ok_move (.tmp 40) rfl (Mono.dep_at hdu (i := 9) (d := 40) rfl rfl rfl)
      · intro a u hbu hsu hdu
        have hux := hu.trans (hbu.mono hu.size); have r2 := hx2.below hbu; have r3 := hx3.below hbu
        refine Mono.if_want (Mono.want_at (c := true) rfl rfl (Mono.dep_at hdu (i := 10) (d := 41) rfl rfl rfl) rfl) ?_
        exact Mono.ok_loadAt 25 (.tmp 2) rfl w.heap.size 25 _ (hat.ext hbu) _ Try.underlying25 rfl (by kernel_rfl) (hsu 2 (by decide)) ⟨_, _, rfl, HR.out.below hux⟩
      · intro a u hbu hsu hdu
        have hux := hu.trans (hbu.mono hu.size); have r2 := hx2.below hbu; have r3 := hx3.below hbu
        refine Mono.if_want (Mono.want_at (c := true) rfl rfl (Mono.dep_at hdu (i := 10) (d := 41) rfl rfl rfl) rfl) ?_
        obtain ⟨q, k, z42, hq⟩ := Mono.dep_at hdu (i := 11) (d := 42) rfl rfl rfl
        simp [Act.eval] at z42
        obtain ⟨_, _, ee, _⟩ := hq.shape
        cases ee
        refine Mono.ok_call 11 _ _ rfl #[.agg (rowM m (.slice q m.avps.length k))] (by simp [execOp, z42, go_sem]) ((PO2.out _ _ _ hq).mono ?_)
        rintro e u4 ⟨p4, n4, c4, rfl, hv, hb⟩
        obtain ⟨_, _, ee, _⟩ := hv.reads.shape
        cases ee
        exact ⟨_, rfl, hb, _, _, rfl, hv.reads⟩
      · intro a u hbu hsu hdu
        have hux := hu.trans (hbu.mono hu.size); have r2 := hx2.below hbu; have r3 := hx3.below hbu
        refine Mono.if_want (Mono.want_at (c := true) rfl rfl (Mono.dep_at hdu (i := 10) (d := 41) rfl rfl rfl) rfl) ?_
        obtain ⟨q, k, z43, hq⟩ := Mono.dep_at hdu (i := 12) (d := 43) rfl rfl rfl
        simp [Act.eval] at z43
        refine Mono.ok_call 20 _ _ rfl #[.agg (rowM m (.slice q m.avps.length k))] (by simp [execOp, z43, go_sem]) ((PC.out _ _ _ hq).mono ?_)
        rintro e u4 ⟨rfl, hb⟩
        exact ⟨_, rfl, hb, rfl⟩
      · intro a u hbu hsu hdu
        have hux := hu.trans (hbu.mono hu.size); have r2 := hx2.below hbu; have r3 := hx3.below hbu
        refine Mono.if_want (Mono.want_at (c := true) rfl rfl (Mono.dep_at hdu (i := 10) (d := 41) rfl rfl rfl) rfl) ?_
        exact Mono.ok_loadAt 25 (.tmp 2) rfl w.heap.size 25 _ (hat.ext hbu) _ Try.underlying25 rfl (by kernel_rfl) (hsu 2 (by decide)) ⟨_, _, rfl, HR.out.below hux⟩
      · intro a u hbu hsu hdu
        have hux := hu.trans (hbu.mono hu.size); have r2 := hx2.below hbu; have r3 := hx3.below hbu
        refine Mono.if_want (Mono.want_at (c := true) rfl rfl (Mono.dep_at hdu (i := 10) (d := 41) rfl rfl rfl) rfl) ?_
        obtain ⟨q, k, z45, hq⟩ := Mono.dep_at hdu (i := 14) (d := 45) rfl rfl rfl
        simp [Act.eval] at z45
        refine Mono.ok_call 21 _ _ rfl #[.agg (rowM m (.slice q m.avps.length k))] (by simp [execOp, z45, go_sem]) ((PD.out _ _ _ hq).mono ?_)
        rintro e u4 ⟨rfl, hb⟩
        exact ⟨_, rfl, hb, rfl⟩
      · intro a u hbu hsu hdu
        have hux := hu.trans (hbu.mono hu.size); have r2 := hx2.below hbu; have r3 := hx3.below hbu
        refine Mono.if_want (Mono.want_at (c := true) rfl rfl (Mono.dep_at hdu (i := 10) (d := 41) rfl rfl rfl) rfl) ?_
        have z44 : a.eval (.tmp 44) = .int .i64 C := Mono.dep_at hdu (i := 13) (d := 44) rfl rfl rfl
        simp [Act.eval] at z44
        have z46 : a.eval (.tmp 46) = .int .i64 C := Mono.dep_at hdu (i := 15) (d := 46) rfl rfl rfl
        simp [Act.eval] at z46
        exact Mono.ok_val (.bool true) (by simp [execOp, z44, z46, go_sem]) rfl
      · intro a u hbu hsu hdu
        have hux := hu.trans (hbu.mono hu.size); have r2 := hx2.below hbu; have r3 := hx3.below hbu
        refine Mono.if_want rfl ?_
        have z41 : a.eval (.tmp 41) = .bool true := Mono.dep_at hdu (i := 10) (d := 41) rfl rfl rfl
        simp [Act.eval] at z41
        have z47 : a.eval (.tmp 47) = .bool true := Mono.dep_at hdu (i := 16) (d := 47) rfl rfl rfl
        simp [Act.eval] at z47
        exact Mono.ok_val (.bool true) (by simp [execOp, z41, z47, go_sem]) rfl
      · intro a u hbu hsu hdu
        have hux := hu.trans (hbu.mono hu.size); have r2 := hx2.below hbu; have r3 := hx3.below hbu
        refine Mono.if_want rfl ?_
        exact Mono.ok_assign (.tmp 48) rfl (Mono.dep_at hdu (i := 17) (d := 48) rfl rfl rfl)
    intro u hu
    simp only [Mono.Fin]
    rintro v31 h31 _ rfl v33 h33 _ rfl _ rfl _ rfl _ rfl _ rfl _ rfl _ rfl _ rfl v42 h42 v43 h43 _ rfl v45 h45 _ rfl _ rfl _ rfl _ rfl
    simp [Act.put]
    go_wp2
    go_ret
    exact ⟨rfl, hu0.trans (hu.mono hu0.size)⟩
end Go.Proofs.Ytcekkppjalipfaa.Avp
