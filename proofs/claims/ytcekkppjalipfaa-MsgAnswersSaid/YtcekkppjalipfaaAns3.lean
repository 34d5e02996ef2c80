/-
  The law MsgAnswers: the walk. (Printed by gen_ans3.py.)
-/
import Derived.Test.YtcekkppjalipfaaAns2
namespace Go.Proofs.Ytcekkppjalipfaa.Avp
open Go.RowKit Mem Cells Avps Wire Ops
set_option linter.unusedVariables false
set_option linter.unusedSimpArgs false

set_option maxRecDepth 100000 in
set_option maxHeartbeats 1600000 in
theorem sameMsgA (m : M) (p q : Option Addr) (c k : Nat) (w : World) (hp : ReadsL w (.slice p m.avps.length c) m.avps) (hq : ReadsL w (.slice q m.avps.length k) m.avps) (ha : ∀ a ∈ m.avps, a.ok) :
    Calls Try.prog 24 #[.agg (rowM m (.slice p m.avps.length c)), .agg (rowM m (.slice q m.avps.length k))] w fun e w' => e = .returned (.bool true) ∧ Below w.heap.size w w' := by
  have HS := Lib.hid (fun u (h : Below w.heap.size w u) => by have := sameAll _ _ m.avps m.avps u (hp.below h) (hq.below h) ha ha; rwa [decide_eq_true rfl] at this)
  obtain ⟨n, hn⟩ : ∃ n, m.avps.length = n := ⟨_, rfl⟩
  rw [hn] at HS ⊢
  clear hp hq ha hn
  go_enter Try.func24, Try.ntmps24
  go_wp2_with (first
    | ((with_reducible refine wpl_boxAt rfl 25 (.tmp 0) rfl (rowM m (.slice p n c)) ?_ ?_); rfl; go_must (intro w1 hat1 hb1 hs1; clear hs1))
    | ((with_reducible refine wpl_boxAt rfl 25 (.tmp 1) rfl (rowM m (.slice q n k)) ?_ ?_); rfl; go_must (intro w2 hat2 hb2 hs2; clear hs2; have hb12 := hb1.trans (hb2.mono hb1.size); have hat12 := hat1.ext hb2; have x0 := hat12.cell 0; have x1 := hat12.cell 1; have x2 := hat12.cell 2; have x3 := hat12.cell 3; have x4 := hat12.cell 4; have x5 := hat12.cell 5; have x6 := hat12.cell 6; have x7 := hat12.cell 7; have x8 := hat12.cell 8; have y0 := hat2.cell 0; have y1 := hat2.cell 1; have y2 := hat2.cell 2; have y3 := hat2.cell 3; have y4 := hat2.cell 4; have y5 := hat2.cell 5; have y6 := hat2.cell 6; have y7 := hat2.cell 7; have y8 := hat2.cell 8; simp [rowM] at x0 x1 x2 x3 x4 x5 x6 x7 x8 y0 y1 y2 y3 y4 y5 y6 y7 y8; clear hat1 hat2 hat12 hb1 hb2))
    | (go_at_call 41; go_must (refine (HS.out _ hb12).mono ?_; rintro e w3 ⟨rfl, hb3⟩; have hb := hb12.trans (hb3.mono hb12.size))))
  go_ret
  exact ⟨rfl, hb⟩
section
variable {w : World} {ops : Array Oper} {rest : List Oper} {o : Oper} {a : Act} {Q : Exit → Act → World → Prop}
theorem run_field8 (m : M) (d : Value) (w : World) (hd : ∃ p n c, d = .slice p n c) : (Instr.field 25 (.agg (rowM m d)) 8).run Try.prog w = .ok d w := by
  obtain ⟨p, n, c, rfl⟩ := hd
  kernel_rfl
/-- The list of a message that is a value. -/
theorem wpl_field8 (hgd : o.guard = none) (x : Operand) (ho : o.op = .field 25 x 8) (m : M) (p : Option Addr) (n c : Nat) (hx : a.eval x = .agg (rowM m (.slice p n c))) (h : wpList Try.prog ops Q rest (a.put o.dst (.slice p n c)) w) : wpList Try.prog ops Q (o :: rest) a w := by
  refine wpList_plain hgd fun K hK => ?_
  unfold Oper.wp execOp
  simp only [ho, hx, Sem.run_bind, run_field8 m _ w ⟨_, _, _, rfl⟩, Result.andThen_ok]
  exact hK _ _ h
end
def noM0 : M := ⟨false, false, false, false, 0, 0, 0, 0, []⟩
theorem ansOf_ok (m : M) (code : Int) (h r : ByteArray) (more : List A) (hmo : ∀ a ∈ more, a.ok) : ∀ a ∈ (ansOf m code h r more).avps, a.ok := by
  intro a ha
  rcases List.mem_append.1 (show a ∈ ansL (clampN code) h r ++ more from ha) with ha | ha
  · exact ansL_ok _ _ _ a ha
  · exact hmo a ha
theorem ansOf_len (m : M) (code : Int) (h r : ByteArray) (more : List A) (hh : h.size ≤ 140737488355300) (hr : r.size ≤ 140737488355300) (hd : ∀ a ∈ more, a.data.length ≤ 140737488355300) : ∀ a ∈ (ansOf m code h r more).avps, a.data.length ≤ 140737488355300 := by
  intro a ha
  rcases List.mem_append.1 (show a ∈ ansL (clampN code) h r ++ more from ha) with ha | ha
  · simp [ansL] at ha
    rcases ha with rfl | rfl | rfl
    · simp [a268, bytesOf_length]
    · simp [a264, bs_length]; exact hh
    · simp [a296, bs_length]; exact hr
  · exact hd a ha
set_option maxRecDepth 100000 in
theorem answers_big (m : M) (p : Option Addr) (c : Nat) (code : Int) (h r : ByteArray) (pm : Option Addr) (cm : Nat) (more : List A) (w : World) (hr0 : ReadsL w (.slice p m.avps.length c) m.avps) (hok : m.ok) (hd0 : ∀ a ∈ m.avps, a.data.length ≤ 140737488351232) (hh : h.size ≤ maxLen) (hr : r.size ≤ maxLen) (hm : ReadsL w (.slice pm more.length cm) more) (hmo : ∀ a ∈ more, a.ok) (hd : ∀ a ∈ more, a.data.length ≤ 140737488351232) (hi : -9223372036854775808 ≤ code ∧ code ≤ 9223372036854775807) (hhs : h.size ≤ 140737488355300) (hrs : r.size ≤ 140737488355300) (hbig : 100 < more.length) : Calls Try.prog 7 #[.agg (rowM m (.slice p m.avps.length c)), .int .i64 code, .string h, .string r, .slice pm more.length cm] w fun e w' => e = .returned (.bool true) ∧ Below w.heap.size w w' := by
  obtain ⟨n, hn⟩ : ∃ n, more.length = n := ⟨_, rfl⟩
  have hone : (Value.slice p m.avps.length c).oneCell' = true := rfl
  rw [hn] at hbig ⊢
  have S1 := Lib.hid (rfl : w = w)
  have S2 := Lib.hid (rfl : w = w)
  clear hr0 hok hd0 hm hmo hd hn
  go_enter Try.func7, Try.ntmps7
  go_wp2_with (first | ((with_reducible refine wpl_boxAt rfl 25 (.tmp 0) rfl (rowM m (.slice p m.avps.length c)) ?_ ?_); rfl; go_must (intro w0 hat0 hu hs; clear hs; have L0 := hat0.lt)) | (go_at_call 13; have _t := S1; clear _t; go_must (refine (answers _).mono ?_; rintro e y1 ⟨rfl, hb⟩; clear S1; have hu_ := hu.trans (hb.mono hu.size); have hat0_ := hat0.ext hb; clear hu hat0; have hu := hu_; have hat0 := hat0_; clear hu_ hat0_ hb)) | (go_at_call 13; have _t := S2; clear _t; go_must (refine (answers _).mono ?_; rintro e y1 ⟨rfl, hb⟩; clear S2; have hu_ := hu.trans (hb.mono hu.size); have hat0_ := hat0.ext hb; clear hu hat0; have hu := hu_; have hat0 := hat0_; clear hu_ hat0_ hb)))
  go_ret
  exact ⟨rfl, hu⟩
set_option maxRecDepth 100000 in
set_option maxHeartbeats 3200000 in
theorem answers_0 (m : M) (p : Option Addr) (c : Nat) (code : Int) (h r : ByteArray) (pm : Option Addr) (cm : Nat) (more : List A) (w : World) (hr0 : ReadsL w (.slice p m.avps.length c) m.avps) (hok : m.ok) (hd0 : ∀ a ∈ m.avps, a.data.length ≤ 140737488351232) (hh : h.size ≤ maxLen) (hr : r.size ≤ maxLen) (hm : ReadsL w (.slice pm more.length cm) more) (hmo : ∀ a ∈ more, a.ok) (hd : ∀ a ∈ more, a.data.length ≤ 140737488351232) (hi : -9223372036854775808 ≤ code ∧ code ≤ 9223372036854775807) (hhs : h.size ≤ 140737488355300) (hrs : r.size ≤ 140737488355300) (hsm : more.length ≤ 100) (hc : code < 0) : Calls Try.prog 7 #[.agg (rowM m (.slice p m.avps.length c)), .int .i64 code, .string h, .string r, .slice pm more.length cm] w fun e w' => e = .returned (.bool true) ∧ Below w.heap.size w w' := by
  have hone : (Value.slice p m.avps.length c).oneCell' = true := rfl
  have PO1 := Lib.hid (fun u (h : ReadsL u (.slice p m.avps.length c) m.avps) => own m p c u h (fun a ha => by have := hd0 a ha; omega))
  have PO2 := Lib.hid (fun u (h : ReadsL u (.slice pm more.length cm) more) => show Calls Try.prog 11 #[.agg (rowM { noM0 with avps := more } (.slice pm more.length cm))] u (OwnIs u { noM0 with avps := more }) from by have := own { noM0 with avps := more } pm cm u h (fun a ha => by have := hd a ha; omega); rwa [show ({ noM0 with avps := more.take 200 } : M) = { noM0 with avps := more } from by rw [List.take_of_length_le (by omega)]] at this)
  have PA := Lib.hid (fun q k v u (hl : ReadsL u v more) => msgAnswer { m with avps := m.avps.take 200 } q k code h r v more u hh hr hl hsm (fun a ha => by have := hd a ha; omega) hi)
  have PR := Lib.hid (fun q k u (hl : ReadsL u (.slice pm more.length cm) more) => refAnswer m q k code h r (.slice pm more.length cm) more u hh hr hl hsm hi)
  obtain ⟨m1, hm1⟩ : ∃ m1, ({ m with avps := m.avps.take 200 } : M) = m1 := ⟨_, rfl⟩
  have PA : Hid (∀ q k v u, ReadsL u v more → Calls Try.prog 22 #[.agg (rowM m1 (.slice q m1.avps.length k)), .int .i64 code, .string h, .string r, v] u (OwnIs u (ansOf m code h r more))) := Lib.hid (by subst hm1; exact fun q k v u hl => PA.out q k v u hl)
  rw [hm1] at PO1
  have PC := Lib.hid (fun q k u (hl : ReadsL u (.slice q (ansOf m code h r more).avps.length k) (ansOf m code h r more).avps) => by
    have := msgCode (ansOf m code h r more) q k u hl (ansOf_ok m code h r more hmo) (ansOf_len m code h r more hhs hrs (fun a ha => by have := hd a ha; omega))
    rwa [code_ans, show clampN code = 0 from by unfold clampN; first | rw [if_pos (by omega)] | rw [if_neg (by omega)]] at this)
  have OKA := Lib.hid (ansOf_ok m code h r more hmo)
  have MH := Lib.hid (show (ansOf m code h r more).hop = m.hop ∧ (ansOf m code h r more).fin = m.fin ∧ (ansOf m code h r more).req = false ∧ (ansOf m code h r more).again = false from ⟨rfl, rfl, rfl, rfl⟩)
  obtain ⟨MA, hMA⟩ : ∃ MA, ansOf m code h r more = MA := ⟨_, rfl⟩
  rw [hMA] at PA PR PC OKA MH
  have HR0 := Lib.hid hr0
  have HM := Lib.hid hm
  have S1 := Lib.hid (rfl : w = w)
  have S2 := Lib.hid (rfl : w = w)
  have S3 := Lib.hid (rfl : w = w)
  have S4 := Lib.hid (rfl : w = w)
  have S5 := Lib.hid (rfl : w = w)
  obtain ⟨lm, hlm⟩ : ∃ n, more.length = n := ⟨_, rfl⟩
  have HLM := Lib.hid hlm
  clear hr0 hok hd0 hm hmo hd hm1 hMA
  rw [hlm] at hsm PR HM PO2 ⊢
  clear hlm
  go_enter Try.func7, Try.ntmps7
  go_wp2_with (first
    | ((with_reducible refine wpl_boxAt rfl 25 (.tmp 0) rfl (rowM m (.slice p m.avps.length c)) ?_ ?_); rfl; go_must (intro w0 hat0 hu hs; clear hs; have L0 := hat0.lt))
    | (go_at_call 13; have _t := S1; clear _t; go_must (refine (answers _).mono ?_; rintro e y1 ⟨rfl, hb⟩; clear S1; have hu_ := hu.trans (hb.mono hu.size); have hat0_ := hat0.ext hb; clear hu hat0; have hu := hu_; have hat0 := hat0_; clear hu_ hat0_ hb))
    | ((with_reducible refine wpl_loadAt rfl 25 (.tmp 5) rfl w.heap.size 25 (rowM m (.slice p m.avps.length c)) hat0 _ Try.underlying25 rfl (by kernel_rfl) ?_ ?_); rfl)
    | (go_at_call 11; have _t := S2; clear _t; go_must (refine (PO1.out _ (HR0.out.below hu)).mono ?_; clear S2; rintro e y2 ⟨p1, n1, c1, rfl, hv, hb⟩; obtain ⟨_, _, ee, _⟩ := hv.reads.shape; cases ee; clear hv; have hu_ := hu.trans (hb.mono hu.size); have hat0_ := hat0.ext hb; clear hu hat0; have hu := hu_; have hat0 := hat0_; clear hu_ hat0_ hb))
    | (go_at_call 11; have _t := S3; clear _t; go_must (refine (PO2.out _ (HM.out.below hu)).mono ?_; clear S3; rintro e y3 ⟨p2, n2, c2, rfl, hv, hb⟩; obtain ⟨_, _, ee, _⟩ := hv.reads.shape; cases ee; have hL2 := hv.reads; clear hv; have hu_ := hu.trans (hb.mono hu.size); have hat0_ := hat0.ext hb; clear hu hat0; have hu := hu_; have hat0 := hat0_; clear hu_ hat0_ hb))
    | ((with_reducible refine wpl_field8 rfl (.tmp 28) rfl { noM0 with avps := more } p2 ({ noM0 with avps := more } : M).avps.length c2 ?_ ?_); rfl)
    | (go_at_call 22; go_must (refine (PA.out p1 c1 _ _ hL2).mono ?_; rintro e y4 ⟨p3, n3, c3, rfl, hv, hb⟩; obtain ⟨_, _, ee, _⟩ := hv.reads.shape; cases ee; have hL4 := hv.reads; clear hv hL2; have hu_ := hu.trans (hb.mono hu.size); have hat0_ := hat0.ext hb; clear hu hat0; have hu := hu_; have hat0 := hat0_; clear hu_ hat0_ hb; have h4 := Below.refl y4.heap.size y4))
    | ((with_reducible refine wpl_allocAt rfl 25 rfl zeroM (by kernel_rfl) ?_); have _t := S4; clear _t; go_must (intro y5 hat5 hb hs; clear hs S4; have Ty5_0 := hu.size; have Ty5_1 := hat0.lt; have Ty5_2 := h4.size; have hu_ := hu.trans (hb.mono hu.size); have hat0_ := hat0.ext hb; have h4_ := h4.trans (hb.mono h4.size); clear hu hat0 h4; have hu := hu_; have hat0 := hat0_; have h4 := h4_; clear hu_ hat0_ h4_ hb; have Ly5 := hat5.lt))
    | ((with_reducible refine wpl_storeR rfl 25 (.tmp 11) (.tmp 30) rfl rfl y4.heap.size 25 zeroM (rowM MA (.slice p3 MA.avps.length c3)) ?_ ?_ hat5 (by kernel_rfl) ?_ ?_ ?_); rfl; rfl; rfl; (simp [rowM, Value.oneCell']); go_must (intro y6 hat5' hg; have hu_ := below_grown hu hg hu.size (by omega); have hat0_ := hat0.grown hg (by omega); have h4_ := below_grown h4 hg h4.size (by omega); clear hu hat0 h4; have hu := hu_; have hat0 := hat0_; have h4 := h4_; clear hu_ hat0_ h4_ hg; clear hat5; have hat5 := hat5'; clear hat5'))
    | (go_at_call 23; go_must (refine (PR.out p c _ (HM.out.below hu)).mono ?_; rintro e y7 ⟨p4, n4, c4, rfl, hv, hb⟩; obtain ⟨_, _, ee, _⟩ := hv.reads.shape; cases ee; have hL7 := hv.reads; clear hv; have hu_ := hu.trans (hb.mono hu.size); have hat0_ := hat0.ext hb; have h4_ := h4.trans (hb.mono h4.size); have hat5_ := hat5.ext hb; clear hu hat0 h4 hat5; have hu := hu_; have hat0 := hat0_; have h4 := h4_; have hat5 := hat5_; clear hu_ hat0_ h4_ hat5_ hb; have h7 := Below.refl y7.heap.size y7))
    | ((with_reducible refine wpl_allocAt rfl 25 rfl zeroM (by kernel_rfl) ?_); have _t := S5; clear _t; go_must (intro y8 hat8 hb hs; clear hs S5; have Ty8_0 := hu.size; have Ty8_1 := hat0.lt; have Ty8_2 := h4.size; have Ty8_3 := hat5.lt; have Ty8_4 := h7.size; have hu_ := hu.trans (hb.mono hu.size); have hat0_ := hat0.ext hb; have h4_ := h4.trans (hb.mono h4.size); have hat5_ := hat5.ext hb; have h7_ := h7.trans (hb.mono h7.size); clear hu hat0 h4 hat5 h7; have hu := hu_; have hat0 := hat0_; have h4 := h4_; have hat5 := hat5_; have h7 := h7_; clear hu_ hat0_ h4_ hat5_ h7_ hb; have Ly8 := hat8.lt))
    | ((with_reducible refine wpl_storeR rfl 25 (.tmp 12) (.tmp 36) rfl rfl y7.heap.size 25 zeroM (rowM MA (.slice p4 MA.avps.length c4)) ?_ ?_ hat8 (by kernel_rfl) ?_ ?_ ?_); rfl; rfl; rfl; (simp [rowM, Value.oneCell']); go_must (intro y9 hat8' hg; have hu_ := below_grown hu hg hu.size (by omega); have hat0_ := hat0.grown hg (by omega); have h4_ := below_grown h4 hg h4.size (by omega); have hat5_ := hat5.grown hg (by omega); have h7_ := below_grown h7 hg h7.size (by omega); clear hu hat0 h4 hat5 h7; have hu := hu_; have hat0 := hat0_; have h4 := h4_; have hat5 := hat5_; have h7 := h7_; clear hu_ hat0_ h4_ hat5_ h7_ hg; clear hat8; have hat8 := hat8'; clear hat8'))
    | ((with_reducible refine wpl_loadAt rfl 25 (.tmp 11) rfl y4.heap.size 25 (rowM MA (.slice p3 MA.avps.length c3)) hat5 _ Try.underlying25 rfl (by kernel_rfl) ?_ ?_); rfl)
    | ((with_reducible refine wpl_loadAt rfl 25 (.tmp 12) rfl y7.heap.size 25 (rowM MA (.slice p4 MA.avps.length c4)) hat8 _ Try.underlying25 rfl (by kernel_rfl) ?_ ?_); rfl)
    | (go_at_call 24; go_must (refine (sameMsgA MA _ _ _ _ _ (hL4.below h4) (hL7.below h7) OKA.out).mono ?_; rintro e y10 ⟨rfl, hb⟩; have hu_ := hu.trans (hb.mono hu.size); have hat0_ := hat0.ext hb; have h4_ := h4.trans (hb.mono h4.size); have hat5_ := hat5.ext hb; have h7_ := h7.trans (hb.mono h7.size); have hat8_ := hat8.ext hb; clear hu hat0 h4 hat5 h7 hat8; have hu := hu_; have hat0 := hat0_; have h4 := h4_; have hat5 := hat5_; have h7 := h7_; have hat8 := hat8_; clear hu_ hat0_ h4_ hat5_ h7_ hat8_ hb; have g6 := hat5.cell 6; have g7 := hat5.cell 7; have g0 := hat5.cell 0; have g3 := hat5.cell 3; have k6 := hat0.cell 6; have k7 := hat0.cell 7; simp [rowM] at g6 g7 g0 g3 k6 k7; rw [MH.out.1] at g6; rw [MH.out.2.1] at g7; rw [MH.out.2.2.1] at g0; rw [MH.out.2.2.2] at g3))
    | (go_at_call 20; go_must (refine (PC.out _ _ _ (hL4.below h4)).mono ?_; rintro e y11 ⟨rfl, hb⟩; have hu_ := hu.trans (hb.mono hu.size); have hat0_ := hat0.ext hb; have h4_ := h4.trans (hb.mono h4.size); have hat5_ := hat5.ext hb; have h7_ := h7.trans (hb.mono h7.size); have hat8_ := hat8.ext hb; clear hu hat0 h4 hat5 h7 hat8; have hu := hu_; have hat0 := hat0_; have h4 := h4_; have hat5 := hat5_; have h7 := h7_; have hat8 := hat8_; clear hu_ hat0_ h4_ hat5_ h7_ hat8_ hb)))
  go_ret
  exact ⟨rfl, hu⟩
set_option maxRecDepth 100000 in
set_option maxHeartbeats 3200000 in
theorem answers_1 (m : M) (p : Option Addr) (c : Nat) (code : Int) (h r : ByteArray) (pm : Option Addr) (cm : Nat) (more : List A) (w : World) (hr0 : ReadsL w (.slice p m.avps.length c) m.avps) (hok : m.ok) (hd0 : ∀ a ∈ m.avps, a.data.length ≤ 140737488351232) (hh : h.size ≤ maxLen) (hr : r.size ≤ maxLen) (hm : ReadsL w (.slice pm more.length cm) more) (hmo : ∀ a ∈ more, a.ok) (hd : ∀ a ∈ more, a.data.length ≤ 140737488351232) (hi : -9223372036854775808 ≤ code ∧ code ≤ 9223372036854775807) (hhs : h.size ≤ 140737488355300) (hrs : r.size ≤ 140737488355300) (hsm : more.length ≤ 100) (hc : 0 ≤ code ∧ code ≤ 4294967295) : Calls Try.prog 7 #[.agg (rowM m (.slice p m.avps.length c)), .int .i64 code, .string h, .string r, .slice pm more.length cm] w fun e w' => e = .returned (.bool true) ∧ Below w.heap.size w w' := by
  have hone : (Value.slice p m.avps.length c).oneCell' = true := rfl
  have PO1 := Lib.hid (fun u (h : ReadsL u (.slice p m.avps.length c) m.avps) => own m p c u h (fun a ha => by have := hd0 a ha; omega))
  have PO2 := Lib.hid (fun u (h : ReadsL u (.slice pm more.length cm) more) => show Calls Try.prog 11 #[.agg (rowM { noM0 with avps := more } (.slice pm more.length cm))] u (OwnIs u { noM0 with avps := more }) from by have := own { noM0 with avps := more } pm cm u h (fun a ha => by have := hd a ha; omega); rwa [show ({ noM0 with avps := more.take 200 } : M) = { noM0 with avps := more } from by rw [List.take_of_length_le (by omega)]] at this)
  have PA := Lib.hid (fun q k v u (hl : ReadsL u v more) => msgAnswer { m with avps := m.avps.take 200 } q k code h r v more u hh hr hl hsm (fun a ha => by have := hd a ha; omega) hi)
  have PR := Lib.hid (fun q k u (hl : ReadsL u (.slice pm more.length cm) more) => refAnswer m q k code h r (.slice pm more.length cm) more u hh hr hl hsm hi)
  obtain ⟨m1, hm1⟩ : ∃ m1, ({ m with avps := m.avps.take 200 } : M) = m1 := ⟨_, rfl⟩
  have PA : Hid (∀ q k v u, ReadsL u v more → Calls Try.prog 22 #[.agg (rowM m1 (.slice q m1.avps.length k)), .int .i64 code, .string h, .string r, v] u (OwnIs u (ansOf m code h r more))) := Lib.hid (by subst hm1; exact fun q k v u hl => PA.out q k v u hl)
  rw [hm1] at PO1
  have PC := Lib.hid (fun q k u (hl : ReadsL u (.slice q (ansOf m code h r more).avps.length k) (ansOf m code h r more).avps) => by
    have := msgCode (ansOf m code h r more) q k u hl (ansOf_ok m code h r more hmo) (ansOf_len m code h r more hhs hrs (fun a ha => by have := hd a ha; omega))
    rwa [code_ans, show clampN code = code from by unfold clampN; first | rw [if_pos (by omega)] | rw [if_neg (by omega)]] at this)
  have OKA := Lib.hid (ansOf_ok m code h r more hmo)
  have MH := Lib.hid (show (ansOf m code h r more).hop = m.hop ∧ (ansOf m code h r more).fin = m.fin ∧ (ansOf m code h r more).req = false ∧ (ansOf m code h r more).again = false from ⟨rfl, rfl, rfl, rfl⟩)
  obtain ⟨MA, hMA⟩ : ∃ MA, ansOf m code h r more = MA := ⟨_, rfl⟩
  rw [hMA] at PA PR PC OKA MH
  have HR0 := Lib.hid hr0
  have HM := Lib.hid hm
  have S1 := Lib.hid (rfl : w = w)
  have S2 := Lib.hid (rfl : w = w)
  have S3 := Lib.hid (rfl : w = w)
  have S4 := Lib.hid (rfl : w = w)
  have S5 := Lib.hid (rfl : w = w)
  obtain ⟨lm, hlm⟩ : ∃ n, more.length = n := ⟨_, rfl⟩
  have HLM := Lib.hid hlm
  clear hr0 hok hd0 hm hmo hd hm1 hMA
  rw [hlm] at hsm PR HM PO2 ⊢
  clear hlm
  go_enter Try.func7, Try.ntmps7
  go_wp2_with (first
    | ((with_reducible refine wpl_boxAt rfl 25 (.tmp 0) rfl (rowM m (.slice p m.avps.length c)) ?_ ?_); rfl; go_must (intro w0 hat0 hu hs; clear hs; have L0 := hat0.lt))
    | (go_at_call 13; have _t := S1; clear _t; go_must (refine (answers _).mono ?_; rintro e y1 ⟨rfl, hb⟩; clear S1; have hu_ := hu.trans (hb.mono hu.size); have hat0_ := hat0.ext hb; clear hu hat0; have hu := hu_; have hat0 := hat0_; clear hu_ hat0_ hb))
    | ((with_reducible refine wpl_loadAt rfl 25 (.tmp 5) rfl w.heap.size 25 (rowM m (.slice p m.avps.length c)) hat0 _ Try.underlying25 rfl (by kernel_rfl) ?_ ?_); rfl)
    | (go_at_call 11; have _t := S2; clear _t; go_must (refine (PO1.out _ (HR0.out.below hu)).mono ?_; clear S2; rintro e y2 ⟨p1, n1, c1, rfl, hv, hb⟩; obtain ⟨_, _, ee, _⟩ := hv.reads.shape; cases ee; clear hv; have hu_ := hu.trans (hb.mono hu.size); have hat0_ := hat0.ext hb; clear hu hat0; have hu := hu_; have hat0 := hat0_; clear hu_ hat0_ hb))
    | (go_at_call 11; have _t := S3; clear _t; go_must (refine (PO2.out _ (HM.out.below hu)).mono ?_; clear S3; rintro e y3 ⟨p2, n2, c2, rfl, hv, hb⟩; obtain ⟨_, _, ee, _⟩ := hv.reads.shape; cases ee; have hL2 := hv.reads; clear hv; have hu_ := hu.trans (hb.mono hu.size); have hat0_ := hat0.ext hb; clear hu hat0; have hu := hu_; have hat0 := hat0_; clear hu_ hat0_ hb))
    | ((with_reducible refine wpl_field8 rfl (.tmp 28) rfl { noM0 with avps := more } p2 ({ noM0 with avps := more } : M).avps.length c2 ?_ ?_); rfl)
    | (go_at_call 22; go_must (refine (PA.out p1 c1 _ _ hL2).mono ?_; rintro e y4 ⟨p3, n3, c3, rfl, hv, hb⟩; obtain ⟨_, _, ee, _⟩ := hv.reads.shape; cases ee; have hL4 := hv.reads; clear hv hL2; have hu_ := hu.trans (hb.mono hu.size); have hat0_ := hat0.ext hb; clear hu hat0; have hu := hu_; have hat0 := hat0_; clear hu_ hat0_ hb; have h4 := Below.refl y4.heap.size y4))
    | ((with_reducible refine wpl_allocAt rfl 25 rfl zeroM (by kernel_rfl) ?_); have _t := S4; clear _t; go_must (intro y5 hat5 hb hs; clear hs S4; have Ty5_0 := hu.size; have Ty5_1 := hat0.lt; have Ty5_2 := h4.size; have hu_ := hu.trans (hb.mono hu.size); have hat0_ := hat0.ext hb; have h4_ := h4.trans (hb.mono h4.size); clear hu hat0 h4; have hu := hu_; have hat0 := hat0_; have h4 := h4_; clear hu_ hat0_ h4_ hb; have Ly5 := hat5.lt))
    | ((with_reducible refine wpl_storeR rfl 25 (.tmp 11) (.tmp 30) rfl rfl y4.heap.size 25 zeroM (rowM MA (.slice p3 MA.avps.length c3)) ?_ ?_ hat5 (by kernel_rfl) ?_ ?_ ?_); rfl; rfl; rfl; (simp [rowM, Value.oneCell']); go_must (intro y6 hat5' hg; have hu_ := below_grown hu hg hu.size (by omega); have hat0_ := hat0.grown hg (by omega); have h4_ := below_grown h4 hg h4.size (by omega); clear hu hat0 h4; have hu := hu_; have hat0 := hat0_; have h4 := h4_; clear hu_ hat0_ h4_ hg; clear hat5; have hat5 := hat5'; clear hat5'))
    | (go_at_call 23; go_must (refine (PR.out p c _ (HM.out.below hu)).mono ?_; rintro e y7 ⟨p4, n4, c4, rfl, hv, hb⟩; obtain ⟨_, _, ee, _⟩ := hv.reads.shape; cases ee; have hL7 := hv.reads; clear hv; have hu_ := hu.trans (hb.mono hu.size); have hat0_ := hat0.ext hb; have h4_ := h4.trans (hb.mono h4.size); have hat5_ := hat5.ext hb; clear hu hat0 h4 hat5; have hu := hu_; have hat0 := hat0_; have h4 := h4_; have hat5 := hat5_; clear hu_ hat0_ h4_ hat5_ hb; have h7 := Below.refl y7.heap.size y7))
    | ((with_reducible refine wpl_allocAt rfl 25 rfl zeroM (by kernel_rfl) ?_); have _t := S5; clear _t; go_must (intro y8 hat8 hb hs; clear hs S5; have Ty8_0 := hu.size; have Ty8_1 := hat0.lt; have Ty8_2 := h4.size; have Ty8_3 := hat5.lt; have Ty8_4 := h7.size; have hu_ := hu.trans (hb.mono hu.size); have hat0_ := hat0.ext hb; have h4_ := h4.trans (hb.mono h4.size); have hat5_ := hat5.ext hb; have h7_ := h7.trans (hb.mono h7.size); clear hu hat0 h4 hat5 h7; have hu := hu_; have hat0 := hat0_; have h4 := h4_; have hat5 := hat5_; have h7 := h7_; clear hu_ hat0_ h4_ hat5_ h7_ hb; have Ly8 := hat8.lt))
    | ((with_reducible refine wpl_storeR rfl 25 (.tmp 12) (.tmp 36) rfl rfl y7.heap.size 25 zeroM (rowM MA (.slice p4 MA.avps.length c4)) ?_ ?_ hat8 (by kernel_rfl) ?_ ?_ ?_); rfl; rfl; rfl; (simp [rowM, Value.oneCell']); go_must (intro y9 hat8' hg; have hu_ := below_grown hu hg hu.size (by omega); have hat0_ := hat0.grown hg (by omega); have h4_ := below_grown h4 hg h4.size (by omega); have hat5_ := hat5.grown hg (by omega); have h7_ := below_grown h7 hg h7.size (by omega); clear hu hat0 h4 hat5 h7; have hu := hu_; have hat0 := hat0_; have h4 := h4_; have hat5 := hat5_; have h7 := h7_; clear hu_ hat0_ h4_ hat5_ h7_ hg; clear hat8; have hat8 := hat8'; clear hat8'))
    | ((with_reducible refine wpl_loadAt rfl 25 (.tmp 11) rfl y4.heap.size 25 (rowM MA (.slice p3 MA.avps.length c3)) hat5 _ Try.underlying25 rfl (by kernel_rfl) ?_ ?_); rfl)
    | ((with_reducible refine wpl_loadAt rfl 25 (.tmp 12) rfl y7.heap.size 25 (rowM MA (.slice p4 MA.avps.length c4)) hat8 _ Try.underlying25 rfl (by kernel_rfl) ?_ ?_); rfl)
    | (go_at_call 24; go_must (refine (sameMsgA MA _ _ _ _ _ (hL4.below h4) (hL7.below h7) OKA.out).mono ?_; rintro e y10 ⟨rfl, hb⟩; have hu_ := hu.trans (hb.mono hu.size); have hat0_ := hat0.ext hb; have h4_ := h4.trans (hb.mono h4.size); have hat5_ := hat5.ext hb; have h7_ := h7.trans (hb.mono h7.size); have hat8_ := hat8.ext hb; clear hu hat0 h4 hat5 h7 hat8; have hu := hu_; have hat0 := hat0_; have h4 := h4_; have hat5 := hat5_; have h7 := h7_; have hat8 := hat8_; clear hu_ hat0_ h4_ hat5_ h7_ hat8_ hb; have g6 := hat5.cell 6; have g7 := hat5.cell 7; have g0 := hat5.cell 0; have g3 := hat5.cell 3; have k6 := hat0.cell 6; have k7 := hat0.cell 7; simp [rowM] at g6 g7 g0 g3 k6 k7; rw [MH.out.1] at g6; rw [MH.out.2.1] at g7; rw [MH.out.2.2.1] at g0; rw [MH.out.2.2.2] at g3))
    | (go_at_call 20; go_must (refine (PC.out _ _ _ (hL4.below h4)).mono ?_; rintro e y11 ⟨rfl, hb⟩; have hu_ := hu.trans (hb.mono hu.size); have hat0_ := hat0.ext hb; have h4_ := h4.trans (hb.mono h4.size); have hat5_ := hat5.ext hb; have h7_ := h7.trans (hb.mono h7.size); have hat8_ := hat8.ext hb; clear hu hat0 h4 hat5 h7 hat8; have hu := hu_; have hat0 := hat0_; have h4 := h4_; have hat5 := hat5_; have h7 := h7_; have hat8 := hat8_; clear hu_ hat0_ h4_ hat5_ h7_ hat8_ hb)))
  go_ret
  exact ⟨rfl, hu⟩
set_option maxRecDepth 100000 in
set_option maxHeartbeats 3200000 in
theorem answers_2 (m : M) (p : Option Addr) (c : Nat) (code : Int) (h r : ByteArray) (pm : Option Addr) (cm : Nat) (more : List A) (w : World) (hr0 : ReadsL w (.slice p m.avps.length c) m.avps) (hok : m.ok) (hd0 : ∀ a ∈ m.avps, a.data.length ≤ 140737488351232) (hh : h.size ≤ maxLen) (hr : r.size ≤ maxLen) (hm : ReadsL w (.slice pm more.length cm) more) (hmo : ∀ a ∈ more, a.ok) (hd : ∀ a ∈ more, a.data.length ≤ 140737488351232) (hi : -9223372036854775808 ≤ code ∧ code ≤ 9223372036854775807) (hhs : h.size ≤ 140737488355300) (hrs : r.size ≤ 140737488355300) (hsm : more.length ≤ 100) (hc : 4294967295 < code) : Calls Try.prog 7 #[.agg (rowM m (.slice p m.avps.length c)), .int .i64 code, .string h, .string r, .slice pm more.length cm] w fun e w' => e = .returned (.bool true) ∧ Below w.heap.size w w' := by
  have hone : (Value.slice p m.avps.length c).oneCell' = true := rfl
  have PO1 := Lib.hid (fun u (h : ReadsL u (.slice p m.avps.length c) m.avps) => own m p c u h (fun a ha => by have := hd0 a ha; omega))
  have PO2 := Lib.hid (fun u (h : ReadsL u (.slice pm more.length cm) more) => show Calls Try.prog 11 #[.agg (rowM { noM0 with avps := more } (.slice pm more.length cm))] u (OwnIs u { noM0 with avps := more }) from by have := own { noM0 with avps := more } pm cm u h (fun a ha => by have := hd a ha; omega); rwa [show ({ noM0 with avps := more.take 200 } : M) = { noM0 with avps := more } from by rw [List.take_of_length_le (by omega)]] at this)
  have PA := Lib.hid (fun q k v u (hl : ReadsL u v more) => msgAnswer { m with avps := m.avps.take 200 } q k code h r v more u hh hr hl hsm (fun a ha => by have := hd a ha; omega) hi)
  have PR := Lib.hid (fun q k u (hl : ReadsL u (.slice pm more.length cm) more) => refAnswer m q k code h r (.slice pm more.length cm) more u hh hr hl hsm hi)
  obtain ⟨m1, hm1⟩ : ∃ m1, ({ m with avps := m.avps.take 200 } : M) = m1 := ⟨_, rfl⟩
  have PA : Hid (∀ q k v u, ReadsL u v more → Calls Try.prog 22 #[.agg (rowM m1 (.slice q m1.avps.length k)), .int .i64 code, .string h, .string r, v] u (OwnIs u (ansOf m code h r more))) := Lib.hid (by subst hm1; exact fun q k v u hl => PA.out q k v u hl)
  rw [hm1] at PO1
  have PC := Lib.hid (fun q k u (hl : ReadsL u (.slice q (ansOf m code h r more).avps.length k) (ansOf m code h r more).avps) => by
    have := msgCode (ansOf m code h r more) q k u hl (ansOf_ok m code h r more hmo) (ansOf_len m code h r more hhs hrs (fun a ha => by have := hd a ha; omega))
    rwa [code_ans, show clampN code = 0 from by unfold clampN; first | rw [if_pos (by omega)] | rw [if_neg (by omega)]] at this)
  have OKA := Lib.hid (ansOf_ok m code h r more hmo)
  have MH := Lib.hid (show (ansOf m code h r more).hop = m.hop ∧ (ansOf m code h r more).fin = m.fin ∧ (ansOf m code h r more).req = false ∧ (ansOf m code h r more).again = false from ⟨rfl, rfl, rfl, rfl⟩)
  obtain ⟨MA, hMA⟩ : ∃ MA, ansOf m code h r more = MA := ⟨_, rfl⟩
  rw [hMA] at PA PR PC OKA MH
  have HR0 := Lib.hid hr0
  have HM := Lib.hid hm
  have S1 := Lib.hid (rfl : w = w)
  have S2 := Lib.hid (rfl : w = w)
  have S3 := Lib.hid (rfl : w = w)
  have S4 := Lib.hid (rfl : w = w)
  have S5 := Lib.hid (rfl : w = w)
  obtain ⟨lm, hlm⟩ : ∃ n, more.length = n := ⟨_, rfl⟩
  have HLM := Lib.hid hlm
  clear hr0 hok hd0 hm hmo hd hm1 hMA
  rw [hlm] at hsm PR HM PO2 ⊢
  clear hlm
  go_enter Try.func7, Try.ntmps7
  go_wp2_with (first
    | ((with_reducible refine wpl_boxAt rfl 25 (.tmp 0) rfl (rowM m (.slice p m.avps.length c)) ?_ ?_); rfl; go_must (intro w0 hat0 hu hs; clear hs; have L0 := hat0.lt))
    | (go_at_call 13; have _t := S1; clear _t; go_must (refine (answers _).mono ?_; rintro e y1 ⟨rfl, hb⟩; clear S1; have hu_ := hu.trans (hb.mono hu.size); have hat0_ := hat0.ext hb; clear hu hat0; have hu := hu_; have hat0 := hat0_; clear hu_ hat0_ hb))
    | ((with_reducible refine wpl_loadAt rfl 25 (.tmp 5) rfl w.heap.size 25 (rowM m (.slice p m.avps.length c)) hat0 _ Try.underlying25 rfl (by kernel_rfl) ?_ ?_); rfl)
    | (go_at_call 11; have _t := S2; clear _t; go_must (refine (PO1.out _ (HR0.out.below hu)).mono ?_; clear S2; rintro e y2 ⟨p1, n1, c1, rfl, hv, hb⟩; obtain ⟨_, _, ee, _⟩ := hv.reads.shape; cases ee; clear hv; have hu_ := hu.trans (hb.mono hu.size); have hat0_ := hat0.ext hb; clear hu hat0; have hu := hu_; have hat0 := hat0_; clear hu_ hat0_ hb))
    | (go_at_call 11; have _t := S3; clear _t; go_must (refine (PO2.out _ (HM.out.below hu)).mono ?_; clear S3; rintro e y3 ⟨p2, n2, c2, rfl, hv, hb⟩; obtain ⟨_, _, ee, _⟩ := hv.reads.shape; cases ee; have hL2 := hv.reads; clear hv; have hu_ := hu.trans (hb.mono hu.size); have hat0_ := hat0.ext hb; clear hu hat0; have hu := hu_; have hat0 := hat0_; clear hu_ hat0_ hb))
    | ((with_reducible refine wpl_field8 rfl (.tmp 28) rfl { noM0 with avps := more } p2 ({ noM0 with avps := more } : M).avps.length c2 ?_ ?_); rfl)
    | (go_at_call 22; go_must (refine (PA.out p1 c1 _ _ hL2).mono ?_; rintro e y4 ⟨p3, n3, c3, rfl, hv, hb⟩; obtain ⟨_, _, ee, _⟩ := hv.reads.shape; cases ee; have hL4 := hv.reads; clear hv hL2; have hu_ := hu.trans (hb.mono hu.size); have hat0_ := hat0.ext hb; clear hu hat0; have hu := hu_; have hat0 := hat0_; clear hu_ hat0_ hb; have h4 := Below.refl y4.heap.size y4))
    | ((with_reducible refine wpl_allocAt rfl 25 rfl zeroM (by kernel_rfl) ?_); have _t := S4; clear _t; go_must (intro y5 hat5 hb hs; clear hs S4; have Ty5_0 := hu.size; have Ty5_1 := hat0.lt; have Ty5_2 := h4.size; have hu_ := hu.trans (hb.mono hu.size); have hat0_ := hat0.ext hb; have h4_ := h4.trans (hb.mono h4.size); clear hu hat0 h4; have hu := hu_; have hat0 := hat0_; have h4 := h4_; clear hu_ hat0_ h4_ hb; have Ly5 := hat5.lt))
    | ((with_reducible refine wpl_storeR rfl 25 (.tmp 11) (.tmp 30) rfl rfl y4.heap.size 25 zeroM (rowM MA (.slice p3 MA.avps.length c3)) ?_ ?_ hat5 (by kernel_rfl) ?_ ?_ ?_); rfl; rfl; rfl; (simp [rowM, Value.oneCell']); go_must (intro y6 hat5' hg; have hu_ := below_grown hu hg hu.size (by omega); have hat0_ := hat0.grown hg (by omega); have h4_ := below_grown h4 hg h4.size (by omega); clear hu hat0 h4; have hu := hu_; have hat0 := hat0_; have h4 := h4_; clear hu_ hat0_ h4_ hg; clear hat5; have hat5 := hat5'; clear hat5'))
    | (go_at_call 23; go_must (refine (PR.out p c _ (HM.out.below hu)).mono ?_; rintro e y7 ⟨p4, n4, c4, rfl, hv, hb⟩; obtain ⟨_, _, ee, _⟩ := hv.reads.shape; cases ee; have hL7 := hv.reads; clear hv; have hu_ := hu.trans (hb.mono hu.size); have hat0_ := hat0.ext hb; have h4_ := h4.trans (hb.mono h4.size); have hat5_ := hat5.ext hb; clear hu hat0 h4 hat5; have hu := hu_; have hat0 := hat0_; have h4 := h4_; have hat5 := hat5_; clear hu_ hat0_ h4_ hat5_ hb; have h7 := Below.refl y7.heap.size y7))
    | ((with_reducible refine wpl_allocAt rfl 25 rfl zeroM (by kernel_rfl) ?_); have _t := S5; clear _t; go_must (intro y8 hat8 hb hs; clear hs S5; have Ty8_0 := hu.size; have Ty8_1 := hat0.lt; have Ty8_2 := h4.size; have Ty8_3 := hat5.lt; have Ty8_4 := h7.size; have hu_ := hu.trans (hb.mono hu.size); have hat0_ := hat0.ext hb; have h4_ := h4.trans (hb.mono h4.size); have hat5_ := hat5.ext hb; have h7_ := h7.trans (hb.mono h7.size); clear hu hat0 h4 hat5 h7; have hu := hu_; have hat0 := hat0_; have h4 := h4_; have hat5 := hat5_; have h7 := h7_; clear hu_ hat0_ h4_ hat5_ h7_ hb; have Ly8 := hat8.lt))
    | ((with_reducible refine wpl_storeR rfl 25 (.tmp 12) (.tmp 36) rfl rfl y7.heap.size 25 zeroM (rowM MA (.slice p4 MA.avps.length c4)) ?_ ?_ hat8 (by kernel_rfl) ?_ ?_ ?_); rfl; rfl; rfl; (simp [rowM, Value.oneCell']); go_must (intro y9 hat8' hg; have hu_ := below_grown hu hg hu.size (by omega); have hat0_ := hat0.grown hg (by omega); have h4_ := below_grown h4 hg h4.size (by omega); have hat5_ := hat5.grown hg (by omega); have h7_ := below_grown h7 hg h7.size (by omega); clear hu hat0 h4 hat5 h7; have hu := hu_; have hat0 := hat0_; have h4 := h4_; have hat5 := hat5_; have h7 := h7_; clear hu_ hat0_ h4_ hat5_ h7_ hg; clear hat8; have hat8 := hat8'; clear hat8'))
    | ((with_reducible refine wpl_loadAt rfl 25 (.tmp 11) rfl y4.heap.size 25 (rowM MA (.slice p3 MA.avps.length c3)) hat5 _ Try.underlying25 rfl (by kernel_rfl) ?_ ?_); rfl)
    | ((with_reducible refine wpl_loadAt rfl 25 (.tmp 12) rfl y7.heap.size 25 (rowM MA (.slice p4 MA.avps.length c4)) hat8 _ Try.underlying25 rfl (by kernel_rfl) ?_ ?_); rfl)
    | (go_at_call 24; go_must (refine (sameMsgA MA _ _ _ _ _ (hL4.below h4) (hL7.below h7) OKA.out).mono ?_; rintro e y10 ⟨rfl, hb⟩; have hu_ := hu.trans (hb.mono hu.size); have hat0_ := hat0.ext hb; have h4_ := h4.trans (hb.mono h4.size); have hat5_ := hat5.ext hb; have h7_ := h7.trans (hb.mono h7.size); have hat8_ := hat8.ext hb; clear hu hat0 h4 hat5 h7 hat8; have hu := hu_; have hat0 := hat0_; have h4 := h4_; have hat5 := hat5_; have h7 := h7_; have hat8 := hat8_; clear hu_ hat0_ h4_ hat5_ h7_ hat8_ hb; have g6 := hat5.cell 6; have g7 := hat5.cell 7; have g0 := hat5.cell 0; have g3 := hat5.cell 3; have k6 := hat0.cell 6; have k7 := hat0.cell 7; simp [rowM] at g6 g7 g0 g3 k6 k7; rw [MH.out.1] at g6; rw [MH.out.2.1] at g7; rw [MH.out.2.2.1] at g0; rw [MH.out.2.2.2] at g3))
    | (go_at_call 20; go_must (refine (PC.out _ _ _ (hL4.below h4)).mono ?_; rintro e y11 ⟨rfl, hb⟩; have hu_ := hu.trans (hb.mono hu.size); have hat0_ := hat0.ext hb; have h4_ := h4.trans (hb.mono h4.size); have hat5_ := hat5.ext hb; have h7_ := h7.trans (hb.mono h7.size); have hat8_ := hat8.ext hb; clear hu hat0 h4 hat5 h7 hat8; have hu := hu_; have hat0 := hat0_; have h4 := h4_; have hat5 := hat5_; have h7 := h7_; have hat8 := hat8_; clear hu_ hat0_ h4_ hat5_ h7_ hat8_ hb)))
  go_ret
  exact ⟨rfl, hu⟩
theorem answersAll (m : M) (p : Option Addr) (c : Nat) (code : Int) (h r : ByteArray) (pm : Option Addr) (cm : Nat) (more : List A) (w : World) (hr0 : ReadsL w (.slice p m.avps.length c) m.avps) (hok : m.ok) (hd0 : ∀ a ∈ m.avps, a.data.length ≤ 140737488351232) (hh : h.size ≤ maxLen) (hr : r.size ≤ maxLen) (hm : ReadsL w (.slice pm more.length cm) more) (hmo : ∀ a ∈ more, a.ok) (hd : ∀ a ∈ more, a.data.length ≤ 140737488351232) (hi : -9223372036854775808 ≤ code ∧ code ≤ 9223372036854775807) (hhs : h.size ≤ 140737488355300) (hrs : r.size ≤ 140737488355300) : Calls Try.prog 7 #[.agg (rowM m (.slice p m.avps.length c)), .int .i64 code, .string h, .string r, .slice pm more.length cm] w fun e w' => e = .returned (.bool true) ∧ Below w.heap.size w w' := by
  by_cases hb : 100 < more.length
  · exact answers_big m p c code h r pm cm more w hr0 hok hd0 hh hr hm hmo hd hi hhs hrs hb
  by_cases h0 : code < 0
  · exact answers_0 m p c code h r pm cm more w hr0 hok hd0 hh hr hm hmo hd hi hhs hrs (by omega) h0
  by_cases h1 : code ≤ 4294967295
  · exact answers_1 m p c code h r pm cm more w hr0 hok hd0 hh hr hm hmo hd hi hhs hrs (by omega) (by omega)
  · exact answers_2 m p c code h r pm cm more w hr0 hok hd0 hh hr hm hmo hd hi hhs hrs (by omega) (by omega)
theorem str_reach {H : Type} {P : Program} {t : TypeId} (s : ByteArray) (h : Open.Sz (H := H) P t (.lit (.string s.data.toList))) : s.size ≤ 140737488355300 := by
  unfold Open.Sz DataW.weights at h
  have h2 : s.data.toList.length ≤ reachBytes := by simpa only [List.all_cons, List.all_nil, Bool.and_true, decide_eq_true_eq] using h
  rw [Array.length_toList] at h2
  have h3 : s.data.size ≤ 140737488351232 := h2
  have : s.size = s.data.size := rfl
  omega
end Go.Proofs.Ytcekkppjalipfaa.Avp
