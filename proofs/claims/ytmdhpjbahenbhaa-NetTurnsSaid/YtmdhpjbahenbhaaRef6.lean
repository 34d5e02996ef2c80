/-
  Contracts of the reference's net: Send.
-/
import Derived.Test.YtmdhpjbahenbhaaRef5
namespace Go.Proofs.Ytmdhpjbahenbhaa.Net
open Go.RowKit Mem Cells Ops Go.Maps
set_option linter.unusedVariables false
set_option linter.unusedSimpArgs false

theorem sendBad_why {hosts fh fp th tp : Int} (h : sendArg hosts fh fp th tp = false) {a b : Bool} (ha : hostB hosts fh = a) (hb : hostB hosts th = b) :
    a = false ∨ (a = true ∧ b = false) ∨ (a = true ∧ b = true ∧ (fh == th) = true) ∨ (a = true ∧ b = true ∧ (fh == th) = false ∧ (fp < 0 ∨ (0 ≤ fp ∧ 1 < fp) ∨ (0 ≤ fp ∧ fp ≤ 1 ∧ tp < 0) ∨ (0 ≤ fp ∧ fp ≤ 1 ∧ 0 ≤ tp ∧ 1 < tp))) := by
  cases a with
  | false => exact .inl rfl
  | true =>
    cases b with
    | false => exact .inr (.inl ⟨rfl, rfl⟩)
    | true =>
      by_cases e : fh = th
      · exact .inr (.inr (.inl ⟨rfl, rfl, by simpa using e⟩))
      · refine .inr (.inr (.inr ⟨rfl, rfl, by simpa using e, ?_⟩))
        unfold sendArg pathB at h
        rw [ha, hb] at h
        simp [e] at h
        omega
set_option maxRecDepth 100000 in
set_option maxHeartbeats 3200000 in
theorem rSendBad {S : Nat} {hosts : Int} {ds : Array Value} {w : World} (hrow : At w S 49 ds) (h0 : ds[0]? = some (.int .i64 hosts)) (fh fp th tp : Int) (v : Value) (hbad : sendArg hosts fh fp th tp = false) :
    Calls Try.prog 26 #[.pointer (some ⟨S, 0, none⟩), .agg #[.int .i64 fh, .int .i64 fp], .agg #[.int .i64 th, .int .i64 tp], v] w fun e w' => e = .returned (.int .i64 1) ∧ Below w.heap.size w w' := by
  obtain ⟨a, ha⟩ : ∃ a, hostB hosts fh = a := ⟨_, rfl⟩
  obtain ⟨b, hb⟩ : ∃ b, hostB hosts th = b := ⟨_, rfl⟩
  have hw := sendBad_why hbad ha hb
  have PF := Lib.hid (fun u (hu : Below w.heap.size w u) => by have := rHost S hosts fh ds u (hrow.ext hu) h0; rwa [ha] at this)
  have PT := Lib.hid (fun u (hu : Below w.heap.size w u) => by have := rHost S hosts th ds u (hrow.ext hu) h0; rwa [hb] at this)
  clear ha hb hbad hrow h0
  rcases hw with rfl | ⟨rfl, rfl⟩ | ⟨rfl, rfl, e1⟩ | ⟨rfl, rfl, e1, h1 | ⟨h1, h2⟩ | ⟨h1, h2, h3⟩ | ⟨h1, h2, h3, h4⟩⟩
  all_goals
    go_enter Try.func26, Try.ntmps26
    go_wp2_with (first
      | ((with_reducible refine wpl_boxAt rfl 30 (.tmp 1) rfl #[.int .i64 fh, .int .i64 fp] ?_ ?_); rfl; go_must (intro w1 hat1 hb1 hs1; have HS1 := Lib.hid hs1))
      | ((with_reducible refine wpl_boxAt rfl 30 (.tmp 2) rfl #[.int .i64 th, .int .i64 tp] ?_ ?_); rfl; go_must (intro w2 hat2 hb2 hs2; clear hs2; have hatf := hat1.ext hb2; have hu2 := hb1.trans (hb2.mono hb1.size); clear hat1 hb2 hs1; have cf0 := hatf.cell 0; have cf1 := hatf.cell 1; have ct0 := hat2.cell 0; have ct1 := hat2.cell 1; simp at cf0 cf1 ct0 ct1))
      | (go_at_call 36; (with_reducible refine (PF.out _ hu2).mono ?_); rintro e w3 ⟨rfl, rfl⟩; clear PF)
      | (go_at_call 36; (with_reducible refine (PT.out _ hu2).mono ?_); rintro e w3 ⟨rfl, rfl⟩; clear PT))
    go_ret
    exact ⟨rfl, hu2⟩
theorem sendArg_nat {hosts fh fp th tp : Int} (h8 : hosts ≤ 8) (h : sendArg hosts fh fp th tp = true) : hostB hosts fh = true ∧ hostB hosts th = true ∧ (fh == th) = false ∧ (0 ≤ tp ∧ tp ≤ 1) ∧ ∃ a b q : Nat, fh = a ∧ th = b ∧ fp = q ∧ a < 8 ∧ b < 8 ∧ q < 2 := by
  unfold sendArg at h
  simp only [Bool.and_eq_true] at h
  obtain ⟨⟨⟨⟨h1, h2⟩, h3⟩, h4⟩, h5⟩ := h
  obtain ⟨a, rfl, ha, _⟩ := hostB_nat h1 h8
  obtain ⟨b, rfl, hb, _⟩ := hostB_nat h2 h8
  have h3' := of_decide_eq_true h3
  have h4' := of_decide_eq_true h4
  exact ⟨h1, h2, by simpa using h5, by omega, a, b, fp.toNat, rfl, rfl, by omega, ha, hb, by omega⟩
set_option maxRecDepth 100000 in
set_option maxHeartbeats 1600000 in
theorem rSendLarge {S : Nat} {hosts : Int} {ds : Array Value} {w : World} (hrow : At w S 49 ds) (h0 : ds[0]? = some (.int .i64 hosts)) (h8 : hosts ≤ 8) (fh fp th tp : Int) (p : Option Addr) (m c : Nat) (hok : sendArg hosts fh fp th tp = true) (hm : 4096 < m) (hm63 : m ≤ 9223372036854775807) :
    Calls Try.prog 26 #[.pointer (some ⟨S, 0, none⟩), .agg #[.int .i64 fh, .int .i64 fp], .agg #[.int .i64 th, .int .i64 tp], .slice p m c] w fun e w' => e = .returned (.int .i64 4) ∧ Below w.heap.size w w' := by
  obtain ⟨ha, hb, e1, ⟨t0, t1⟩, a, b, q, rfl, rfl, rfl, la, lb, lq⟩ := sendArg_nat h8 hok
  have PF := Lib.hid (fun u (hu : Below w.heap.size w u) => by have := rHost S hosts a ds u (hrow.ext hu) h0; rwa [ha] at this)
  have PT := Lib.hid (fun u (hu : Below w.heap.size w u) => by have := rHost S hosts b ds u (hrow.ext hu) h0; rwa [hb] at this)
  have e2 : decide (1 < (q : Int)) = false := decide_eq_false (by omega)
  have e3 : decide (1 < tp) = false := decide_eq_false (by omega)
  have hm' : (4096 : Int) < m := by omega
  clear ha hb hok hrow h0 hm
  go_enter Try.func26, Try.ntmps26
  go_wp2_with (first
    | ((with_reducible refine wpl_boxAt rfl 30 (.tmp 1) rfl #[.int .i64 a, .int .i64 q] ?_ ?_); rfl; go_must (intro w1 hat1 hb1 hs1; have HS1 := Lib.hid hs1))
    | ((with_reducible refine wpl_boxAt rfl 30 (.tmp 2) rfl #[.int .i64 b, .int .i64 tp] ?_ ?_); rfl; go_must (intro w2 hat2 hb2 hs2; clear hs2; have hatf := hat1.ext hb2; have hu2 := hb1.trans (hb2.mono hb1.size); clear hat1 hb2 hs1; have cf0 := hatf.cell 0; have cf1 := hatf.cell 1; have ct0 := hat2.cell 0; have ct1 := hat2.cell 1; simp at cf0 cf1 ct0 ct1))
    | (go_at_call 36; (with_reducible refine (PF.out _ hu2).mono ?_); rintro e w3 ⟨rfl, rfl⟩; clear PF)
    | (go_at_call 36; (with_reducible refine (PT.out _ hu2).mono ?_); rintro e w3 ⟨rfl, rfl⟩; clear PT))
  go_ret
  exact ⟨rfl, hu2⟩
set_option maxRecDepth 100000 in
set_option maxHeartbeats 1600000 in
theorem rSendLost1 {X : Nat → Prop} {w : World} {S : Nat} {hosts : Int} {fs : List F} {cut : Int → Int → Int → Bool} (h : RNet X w S hosts fs cut) (fh fp th tp : Int) (p : Option Addr) (n c : Nat) (hok : sendArg hosts fh fp th tp = true) (hn : n ≤ 4096) (hno : ¬ fs.length < 1024) :
    Calls Try.prog 26 #[.pointer (some ⟨S, 0, none⟩), .agg #[.int .i64 fh, .int .i64 fp], .agg #[.int .i64 th, .int .i64 tp], .slice p n c] w fun e w' => e = .returned (.int .i64 0) ∧ Below w.heap.size w w' := by
  obtain ⟨zs, pl, m, cl, ds, h⟩ := h
  obtain ⟨ha, hb, e1, ⟨t0, t1⟩, fa, ta, pa, rfl, rfl, rfl, la, lb, lq⟩ := sendArg_nat h.hosts.2 hok
  have PF := Lib.hid (fun u (hu : Below w.heap.size w u) => by have := rHost S hosts fa ds u (h.row.ext hu) h.h0; rwa [ha] at this)
  have PT := Lib.hid (fun u (hu : Below w.heap.size w u) => by have := rHost S hosts ta ds u (h.row.ext hu) h.h0; rwa [hb] at this)
  have e2 : decide (1 < (pa : Int)) = false := decide_eq_false (by omega)
  have e3 : decide (1 < tp) = false := decide_eq_false (by omega)
  have la' : (fa : Int) < 8 := by omega
  have lb' : (ta : Int) < 8 := by omega
  have lq' : (pa : Int) < 2 := by omega
  have HML : m ≤ 1024 := by have := h.ok.1; rwa [h.flen] at this
  have b9 : decide ((m : Int) < 1024) = false := decide_eq_false (by have := h.flen; omega)
  have HROW := Lib.hid (And.intro h.row (And.intro h.h1 (h.says fa ta pa la lb lq)))
  clear ha hb hok h
  go_enter Try.func26, Try.ntmps26
  go_upto_region 5 with (first
    | ((with_reducible refine wpl_boxAt rfl 30 (.tmp 1) rfl #[.int .i64 fa, .int .i64 pa] ?_ ?_); rfl; go_must (intro w1 hat1 hb1 hs1; have HS1 := Lib.hid hs1))
    | ((with_reducible refine wpl_boxAt rfl 30 (.tmp 2) rfl #[.int .i64 ta, .int .i64 tp] ?_ ?_); rfl; go_must (intro w2 hat2 hb2 hs2; clear hs2; have hatf := hat1.ext hb2; have hu2 := hb1.trans (hb2.mono hb1.size); clear hat1 hb2 hs1; have cf0 := hatf.cell 0; have cf1 := hatf.cell 1; have ct0 := hat2.cell 0; have ct1 := hat2.cell 1; simp at cf0 cf1 ct0 ct1))
    | (go_at_call 36; (with_reducible refine (PF.out _ hu2).mono ?_); rintro e w3 ⟨rfl, rfl⟩; clear PF)
    | (go_at_call 36; (with_reducible refine (PT.out _ hu2).mono ?_); rintro e w3 ⟨rfl, rfl⟩; clear PT))
  have hS2 := HROW.out.1.ext hu2
  have lS := hS2.lt
  have lf := hatf.lt
  have lt := hat2.lt
  have c1 := hS2.cell 1
  have cc := hS2.cell (2 + fa * 16 + ta * 2 + pa)
  rw [HROW.out.2.1] at c1
  rw [HROW.out.2.2] at cc
  refine Mono.wp_region_mono [some 51, some 52, some 53, some 54, some 55, some 56, some 57, some 58, some 59, some 60, some 61, some 62, some 63, some 64, some 65, some 66, some 67, some 68, some 69, some 70, some 71, some 72] [Mono.isV (.pointer (some ⟨S, 0, none⟩)), Mono.isV (.pointer (some ⟨S, 0, none⟩)), Mono.isV (.pointer (some ⟨S, 1, none⟩)), Mono.isV (.slice pl m cl), Mono.isV (.int .i64 m), Mono.isV (.bool false), Mono.isV (.bool false), Mono.isV (undef), Mono.isV (undef), Mono.isV (undef), Mono.isV (undef), Mono.isV (undef), Mono.isV (undef), Mono.isV (undef), Mono.isV (undef), Mono.isV (undef), Mono.isV (undef), Mono.isV (undef), Mono.isV (undef), Mono.isV (undef), Mono.isV (undef), Mono.isV (.bool false)] (by kernel_rfl) (by kernel_rfl) ?_ ?_
  · simp only [Mono.OpGoals, and_true]
    refine ⟨?_, ?_, ?_, ?_, ?_, ?_, ?_, ?_, ?_, ?_, ?_, ?_, ?_, ?_, ?_, ?_, ?_, ?_, ?_, ?_, ?_, ?_⟩
    · intro a u hbu hsu hdu
      have c1 := (hbu.cell (p := ⟨S, 1, none⟩) lS).trans c1; have cc := (hbu.cell (p := ⟨S, 2 + fa * 16 + ta * 2 + pa, none⟩) lS).trans cc; have df0 := (hbu.cell (p := ⟨w.heap.size, 0, none⟩) lf).trans cf0; have df1 := (hbu.cell (p := ⟨w.heap.size, 1, none⟩) lf).trans cf1; have dt0 := (hbu.cell (p := ⟨w1.heap.size, 0, none⟩) lt).trans ct0
      refine Mono.if_want rfl ?_
      exact Mono.ok_move (.tmp 0) rfl (hsu 0 (by decide))
    · intro a u hbu hsu hdu
      have c1 := (hbu.cell (p := ⟨S, 1, none⟩) lS).trans c1; have cc := (hbu.cell (p := ⟨S, 2 + fa * 16 + ta * 2 + pa, none⟩) lS).trans cc; have df0 := (hbu.cell (p := ⟨w.heap.size, 0, none⟩) lf).trans cf0; have df1 := (hbu.cell (p := ⟨w.heap.size, 1, none⟩) lf).trans cf1; have dt0 := (hbu.cell (p := ⟨w1.heap.size, 0, none⟩) lt).trans ct0
      refine Mono.if_want rfl ?_
      have z51 : a.eval (.tmp 51) = .pointer (some ⟨S, 0, none⟩) := Mono.dep_at hdu (i := 0) (d := 51) rfl rfl rfl
      simp [Act.eval] at z51
      exact Mono.ok_val (.pointer (some ⟨S, 0, none⟩)) (by simp [execOp, z51, go_sem, c1, cc, df0, df1, dt0, b9, la', lb', lq']) rfl
    · intro a u hbu hsu hdu
      have c1 := (hbu.cell (p := ⟨S, 1, none⟩) lS).trans c1; have cc := (hbu.cell (p := ⟨S, 2 + fa * 16 + ta * 2 + pa, none⟩) lS).trans cc; have df0 := (hbu.cell (p := ⟨w.heap.size, 0, none⟩) lf).trans cf0; have df1 := (hbu.cell (p := ⟨w.heap.size, 1, none⟩) lf).trans cf1; have dt0 := (hbu.cell (p := ⟨w1.heap.size, 0, none⟩) lt).trans ct0
      refine Mono.if_want rfl ?_
      have z52 : a.eval (.tmp 52) = .pointer (some ⟨S, 0, none⟩) := Mono.dep_at hdu (i := 1) (d := 52) rfl rfl rfl
      simp [Act.eval] at z52
      exact Mono.ok_val (.pointer (some ⟨S, 1, none⟩)) (by simp [execOp, z52, go_sem, c1, cc, df0, df1, dt0, b9, la', lb', lq']) rfl
    · intro a u hbu hsu hdu
      have c1 := (hbu.cell (p := ⟨S, 1, none⟩) lS).trans c1; have cc := (hbu.cell (p := ⟨S, 2 + fa * 16 + ta * 2 + pa, none⟩) lS).trans cc; have df0 := (hbu.cell (p := ⟨w.heap.size, 0, none⟩) lf).trans cf0; have df1 := (hbu.cell (p := ⟨w.heap.size, 1, none⟩) lf).trans cf1; have dt0 := (hbu.cell (p := ⟨w1.heap.size, 0, none⟩) lt).trans ct0
      refine Mono.if_want rfl ?_
      have z53 : a.eval (.tmp 53) = .pointer (some ⟨S, 1, none⟩) := Mono.dep_at hdu (i := 2) (d := 53) rfl rfl rfl
      simp [Act.eval] at z53
      exact Mono.ok_val (.slice pl m cl) (by simp [execOp, z53, go_sem, c1, cc, df0, df1, dt0, b9, la', lb', lq']) rfl
    · intro a u hbu hsu hdu
      have c1 := (hbu.cell (p := ⟨S, 1, none⟩) lS).trans c1; have cc := (hbu.cell (p := ⟨S, 2 + fa * 16 + ta * 2 + pa, none⟩) lS).trans cc; have df0 := (hbu.cell (p := ⟨w.heap.size, 0, none⟩) lf).trans cf0; have df1 := (hbu.cell (p := ⟨w.heap.size, 1, none⟩) lf).trans cf1; have dt0 := (hbu.cell (p := ⟨w1.heap.size, 0, none⟩) lt).trans ct0
      refine Mono.if_want rfl ?_
      have z54 : a.eval (.tmp 54) = .slice pl m cl := Mono.dep_at hdu (i := 3) (d := 54) rfl rfl rfl
      simp [Act.eval] at z54
      exact Mono.ok_val (.int .i64 m) (by simp [execOp, z54, go_sem, c1, cc, df0, df1, dt0, b9, la', lb', lq']) rfl
    · intro a u hbu hsu hdu
      have c1 := (hbu.cell (p := ⟨S, 1, none⟩) lS).trans c1; have cc := (hbu.cell (p := ⟨S, 2 + fa * 16 + ta * 2 + pa, none⟩) lS).trans cc; have df0 := (hbu.cell (p := ⟨w.heap.size, 0, none⟩) lf).trans cf0; have df1 := (hbu.cell (p := ⟨w.heap.size, 1, none⟩) lf).trans cf1; have dt0 := (hbu.cell (p := ⟨w1.heap.size, 0, none⟩) lt).trans ct0
      refine Mono.if_want rfl ?_
      have z55 : a.eval (.tmp 55) = .int .i64 m := Mono.dep_at hdu (i := 4) (d := 55) rfl rfl rfl
      simp [Act.eval] at z55
      exact Mono.ok_val (.bool false) (by simp [execOp, z55, go_sem, c1, cc, df0, df1, dt0, b9, la', lb', lq']) rfl
    · intro a u hbu hsu hdu
      have c1 := (hbu.cell (p := ⟨S, 1, none⟩) lS).trans c1; have cc := (hbu.cell (p := ⟨S, 2 + fa * 16 + ta * 2 + pa, none⟩) lS).trans cc; have df0 := (hbu.cell (p := ⟨w.heap.size, 0, none⟩) lf).trans cf0; have df1 := (hbu.cell (p := ⟨w.heap.size, 1, none⟩) lf).trans cf1; have dt0 := (hbu.cell (p := ⟨w1.heap.size, 0, none⟩) lt).trans ct0
      refine Mono.if_want rfl ?_
      exact Mono.ok_move (.tmp 56) rfl (Mono.dep_at hdu (i := 5) (d := 56) rfl rfl rfl)
    · intro a u hbu hsu hdu
      have c1 := (hbu.cell (p := ⟨S, 1, none⟩) lS).trans c1; have cc := (hbu.cell (p := ⟨S, 2 + fa * 16 + ta * 2 + pa, none⟩) lS).trans cc; have df0 := (hbu.cell (p := ⟨w.heap.size, 0, none⟩) lf).trans cf0; have df1 := (hbu.cell (p := ⟨w.heap.size, 1, none⟩) lf).trans cf1; have dt0 := (hbu.cell (p := ⟨w1.heap.size, 0, none⟩) lt).trans ct0
      refine Mono.if_no (Mono.want_no (c := false) rfl rfl (Mono.dep_at hdu (i := 6) (d := 57) rfl rfl rfl) rfl) ?_
      exact rfl
    · intro a u hbu hsu hdu
      have c1 := (hbu.cell (p := ⟨S, 1, none⟩) lS).trans c1; have cc := (hbu.cell (p := ⟨S, 2 + fa * 16 + ta * 2 + pa, none⟩) lS).trans cc; have df0 := (hbu.cell (p := ⟨w.heap.size, 0, none⟩) lf).trans cf0; have df1 := (hbu.cell (p := ⟨w.heap.size, 1, none⟩) lf).trans cf1; have dt0 := (hbu.cell (p := ⟨w1.heap.size, 0, none⟩) lt).trans ct0
      refine Mono.if_no (Mono.want_no (c := false) rfl rfl (Mono.dep_at hdu (i := 6) (d := 57) rfl rfl rfl) rfl) ?_
      exact rfl
    · intro a u hbu hsu hdu
      have c1 := (hbu.cell (p := ⟨S, 1, none⟩) lS).trans c1; have cc := (hbu.cell (p := ⟨S, 2 + fa * 16 + ta * 2 + pa, none⟩) lS).trans cc; have df0 := (hbu.cell (p := ⟨w.heap.size, 0, none⟩) lf).trans cf0; have df1 := (hbu.cell (p := ⟨w.heap.size, 1, none⟩) lf).trans cf1; have dt0 := (hbu.cell (p := ⟨w1.heap.size, 0, none⟩) lt).trans ct0
      refine Mono.if_no (Mono.want_no (c := false) rfl rfl (Mono.dep_at hdu (i := 6) (d := 57) rfl rfl rfl) rfl) ?_
      exact rfl
    · intro a u hbu hsu hdu
      have c1 := (hbu.cell (p := ⟨S, 1, none⟩) lS).trans c1; have cc := (hbu.cell (p := ⟨S, 2 + fa * 16 + ta * 2 + pa, none⟩) lS).trans cc; have df0 := (hbu.cell (p := ⟨w.heap.size, 0, none⟩) lf).trans cf0; have df1 := (hbu.cell (p := ⟨w.heap.size, 1, none⟩) lf).trans cf1; have dt0 := (hbu.cell (p := ⟨w1.heap.size, 0, none⟩) lt).trans ct0
      refine Mono.if_no (Mono.want_no (c := false) rfl rfl (Mono.dep_at hdu (i := 6) (d := 57) rfl rfl rfl) rfl) ?_
      exact rfl
    · intro a u hbu hsu hdu
      have c1 := (hbu.cell (p := ⟨S, 1, none⟩) lS).trans c1; have cc := (hbu.cell (p := ⟨S, 2 + fa * 16 + ta * 2 + pa, none⟩) lS).trans cc; have df0 := (hbu.cell (p := ⟨w.heap.size, 0, none⟩) lf).trans cf0; have df1 := (hbu.cell (p := ⟨w.heap.size, 1, none⟩) lf).trans cf1; have dt0 := (hbu.cell (p := ⟨w1.heap.size, 0, none⟩) lt).trans ct0
      refine Mono.if_no (Mono.want_no (c := false) rfl rfl (Mono.dep_at hdu (i := 6) (d := 57) rfl rfl rfl) rfl) ?_
      exact rfl
    · intro a u hbu hsu hdu
      have c1 := (hbu.cell (p := ⟨S, 1, none⟩) lS).trans c1; have cc := (hbu.cell (p := ⟨S, 2 + fa * 16 + ta * 2 + pa, none⟩) lS).trans cc; have df0 := (hbu.cell (p := ⟨w.heap.size, 0, none⟩) lf).trans cf0; have df1 := (hbu.cell (p := ⟨w.heap.size, 1, none⟩) lf).trans cf1; have dt0 := (hbu.cell (p := ⟨w1.heap.size, 0, none⟩) lt).trans ct0
      refine Mono.if_no (Mono.want_no (c := false) rfl rfl (Mono.dep_at hdu (i := 6) (d := 57) rfl rfl rfl) rfl) ?_
      exact rfl
    · intro a u hbu hsu hdu
      have c1 := (hbu.cell (p := ⟨S, 1, none⟩) lS).trans c1; have cc := (hbu.cell (p := ⟨S, 2 + fa * 16 + ta * 2 + pa, none⟩) lS).trans cc; have df0 := (hbu.cell (p := ⟨w.heap.size, 0, none⟩) lf).trans cf0; have df1 := (hbu.cell (p := ⟨w.heap.size, 1, none⟩) lf).trans cf1; have dt0 := (hbu.cell (p := ⟨w1.heap.size, 0, none⟩) lt).trans ct0
      refine Mono.if_no (Mono.want_no (c := false) rfl rfl (Mono.dep_at hdu (i := 6) (d := 57) rfl rfl rfl) rfl) ?_
      exact rfl
    · intro a u hbu hsu hdu
      have c1 := (hbu.cell (p := ⟨S, 1, none⟩) lS).trans c1; have cc := (hbu.cell (p := ⟨S, 2 + fa * 16 + ta * 2 + pa, none⟩) lS).trans cc; have df0 := (hbu.cell (p := ⟨w.heap.size, 0, none⟩) lf).trans cf0; have df1 := (hbu.cell (p := ⟨w.heap.size, 1, none⟩) lf).trans cf1; have dt0 := (hbu.cell (p := ⟨w1.heap.size, 0, none⟩) lt).trans ct0
      refine Mono.if_no (Mono.want_no (c := false) rfl rfl (Mono.dep_at hdu (i := 6) (d := 57) rfl rfl rfl) rfl) ?_
      exact rfl
    · intro a u hbu hsu hdu
      have c1 := (hbu.cell (p := ⟨S, 1, none⟩) lS).trans c1; have cc := (hbu.cell (p := ⟨S, 2 + fa * 16 + ta * 2 + pa, none⟩) lS).trans cc; have df0 := (hbu.cell (p := ⟨w.heap.size, 0, none⟩) lf).trans cf0; have df1 := (hbu.cell (p := ⟨w.heap.size, 1, none⟩) lf).trans cf1; have dt0 := (hbu.cell (p := ⟨w1.heap.size, 0, none⟩) lt).trans ct0
      refine Mono.if_no (Mono.want_no (c := false) rfl rfl (Mono.dep_at hdu (i := 6) (d := 57) rfl rfl rfl) rfl) ?_
      exact rfl
    · intro a u hbu hsu hdu
      have c1 := (hbu.cell (p := ⟨S, 1, none⟩) lS).trans c1; have cc := (hbu.cell (p := ⟨S, 2 + fa * 16 + ta * 2 + pa, none⟩) lS).trans cc; have df0 := (hbu.cell (p := ⟨w.heap.size, 0, none⟩) lf).trans cf0; have df1 := (hbu.cell (p := ⟨w.heap.size, 1, none⟩) lf).trans cf1; have dt0 := (hbu.cell (p := ⟨w1.heap.size, 0, none⟩) lt).trans ct0
      refine Mono.if_no (Mono.want_no (c := false) rfl rfl (Mono.dep_at hdu (i := 6) (d := 57) rfl rfl rfl) rfl) ?_
      exact rfl
    · intro a u hbu hsu hdu
      have c1 := (hbu.cell (p := ⟨S, 1, none⟩) lS).trans c1; have cc := (hbu.cell (p := ⟨S, 2 + fa * 16 + ta * 2 + pa, none⟩) lS).trans cc; have df0 := (hbu.cell (p := ⟨w.heap.size, 0, none⟩) lf).trans cf0; have df1 := (hbu.cell (p := ⟨w.heap.size, 1, none⟩) lf).trans cf1; have dt0 := (hbu.cell (p := ⟨w1.heap.size, 0, none⟩) lt).trans ct0
      refine Mono.if_no (Mono.want_no (c := false) rfl rfl (Mono.dep_at hdu (i := 6) (d := 57) rfl rfl rfl) rfl) ?_
      exact rfl
    · intro a u hbu hsu hdu
      have c1 := (hbu.cell (p := ⟨S, 1, none⟩) lS).trans c1; have cc := (hbu.cell (p := ⟨S, 2 + fa * 16 + ta * 2 + pa, none⟩) lS).trans cc; have df0 := (hbu.cell (p := ⟨w.heap.size, 0, none⟩) lf).trans cf0; have df1 := (hbu.cell (p := ⟨w.heap.size, 1, none⟩) lf).trans cf1; have dt0 := (hbu.cell (p := ⟨w1.heap.size, 0, none⟩) lt).trans ct0
      refine Mono.if_no (Mono.want_no (c := false) rfl rfl (Mono.dep_at hdu (i := 6) (d := 57) rfl rfl rfl) rfl) ?_
      exact rfl
    · intro a u hbu hsu hdu
      have c1 := (hbu.cell (p := ⟨S, 1, none⟩) lS).trans c1; have cc := (hbu.cell (p := ⟨S, 2 + fa * 16 + ta * 2 + pa, none⟩) lS).trans cc; have df0 := (hbu.cell (p := ⟨w.heap.size, 0, none⟩) lf).trans cf0; have df1 := (hbu.cell (p := ⟨w.heap.size, 1, none⟩) lf).trans cf1; have dt0 := (hbu.cell (p := ⟨w1.heap.size, 0, none⟩) lt).trans ct0
      refine Mono.if_no (Mono.want_no (c := false) rfl rfl (Mono.dep_at hdu (i := 6) (d := 57) rfl rfl rfl) rfl) ?_
      exact rfl
    · intro a u hbu hsu hdu
      have c1 := (hbu.cell (p := ⟨S, 1, none⟩) lS).trans c1; have cc := (hbu.cell (p := ⟨S, 2 + fa * 16 + ta * 2 + pa, none⟩) lS).trans cc; have df0 := (hbu.cell (p := ⟨w.heap.size, 0, none⟩) lf).trans cf0; have df1 := (hbu.cell (p := ⟨w.heap.size, 1, none⟩) lf).trans cf1; have dt0 := (hbu.cell (p := ⟨w1.heap.size, 0, none⟩) lt).trans ct0
      refine Mono.if_no (Mono.want_no (c := false) rfl rfl (Mono.dep_at hdu (i := 6) (d := 57) rfl rfl rfl) rfl) ?_
      exact rfl
    · intro a u hbu hsu hdu
      have c1 := (hbu.cell (p := ⟨S, 1, none⟩) lS).trans c1; have cc := (hbu.cell (p := ⟨S, 2 + fa * 16 + ta * 2 + pa, none⟩) lS).trans cc; have df0 := (hbu.cell (p := ⟨w.heap.size, 0, none⟩) lf).trans cf0; have df1 := (hbu.cell (p := ⟨w.heap.size, 1, none⟩) lf).trans cf1; have dt0 := (hbu.cell (p := ⟨w1.heap.size, 0, none⟩) lt).trans ct0
      refine Mono.if_want rfl ?_
      have z57 : a.eval (.tmp 57) = .bool false := Mono.dep_at hdu (i := 6) (d := 57) rfl rfl rfl
      simp [Act.eval] at z57
      have z71 : a.eval (.tmp 71) = undef := Mono.dep_at hdu (i := 20) (d := 71) rfl rfl rfl
      simp [Act.eval] at z71
      exact Mono.ok_val (.bool false) (by simp [execOp, z57, z71, go_sem, c1, cc, df0, df1, dt0, b9, la', lb', lq']) rfl
  intro u hu
  simp only [Mono.Fin]
  rintro _ rfl _ rfl _ rfl _ rfl _ rfl _ rfl _ rfl _ rfl _ rfl _ rfl _ rfl _ rfl _ rfl _ rfl _ rfl _ rfl _ rfl _ rfl _ rfl _ rfl _ rfl _ rfl
  simp [Act.put]
  go_wp2_with fail
  go_ret
  exact ⟨rfl, hu2.trans (hu.mono hu2.size)⟩
set_option maxRecDepth 100000 in
set_option maxHeartbeats 1600000 in
theorem rSendLost2 {X : Nat → Prop} {w : World} {S : Nat} {hosts : Int} {fs : List F} {cut : Int → Int → Int → Bool} (h : RNet X w S hosts fs cut) (fh fp th tp : Int) (p : Option Addr) (n c : Nat) (hok : sendArg hosts fh fp th tp = true) (hn : n ≤ 4096) (hno : fs.length < 1024) (hct : cut fh th fp = true) :
    Calls Try.prog 26 #[.pointer (some ⟨S, 0, none⟩), .agg #[.int .i64 fh, .int .i64 fp], .agg #[.int .i64 th, .int .i64 tp], .slice p n c] w fun e w' => e = .returned (.int .i64 0) ∧ Below w.heap.size w w' := by
  obtain ⟨zs, pl, m, cl, ds, h⟩ := h
  obtain ⟨ha, hb, e1, ⟨t0, t1⟩, fa, ta, pa, rfl, rfl, rfl, la, lb, lq⟩ := sendArg_nat h.hosts.2 hok
  have PF := Lib.hid (fun u (hu : Below w.heap.size w u) => by have := rHost S hosts fa ds u (h.row.ext hu) h.h0; rwa [ha] at this)
  have PT := Lib.hid (fun u (hu : Below w.heap.size w u) => by have := rHost S hosts ta ds u (h.row.ext hu) h.h0; rwa [hb] at this)
  have e2 : decide (1 < (pa : Int)) = false := decide_eq_false (by omega)
  have e3 : decide (1 < tp) = false := decide_eq_false (by omega)
  have la' : (fa : Int) < 8 := by omega
  have lb' : (ta : Int) < 8 := by omega
  have lq' : (pa : Int) < 2 := by omega
  have HML : m ≤ 1024 := by have := h.ok.1; rwa [h.flen] at this
  have b9 : decide ((m : Int) < 1024) = true := decide_eq_true (by have := h.flen; omega)
  have hct := Lib.hid hct
  have HROW := Lib.hid (And.intro h.row (And.intro h.h1 (h.says fa ta pa la lb lq)))
  clear ha hb hok h
  go_enter Try.func26, Try.ntmps26
  go_upto_region 5 with (first
    | ((with_reducible refine wpl_boxAt rfl 30 (.tmp 1) rfl #[.int .i64 fa, .int .i64 pa] ?_ ?_); rfl; go_must (intro w1 hat1 hb1 hs1; have HS1 := Lib.hid hs1))
    | ((with_reducible refine wpl_boxAt rfl 30 (.tmp 2) rfl #[.int .i64 ta, .int .i64 tp] ?_ ?_); rfl; go_must (intro w2 hat2 hb2 hs2; clear hs2; have hatf := hat1.ext hb2; have hu2 := hb1.trans (hb2.mono hb1.size); clear hat1 hb2 hs1; have cf0 := hatf.cell 0; have cf1 := hatf.cell 1; have ct0 := hat2.cell 0; have ct1 := hat2.cell 1; simp at cf0 cf1 ct0 ct1))
    | (go_at_call 36; (with_reducible refine (PF.out _ hu2).mono ?_); rintro e w3 ⟨rfl, rfl⟩; clear PF)
    | (go_at_call 36; (with_reducible refine (PT.out _ hu2).mono ?_); rintro e w3 ⟨rfl, rfl⟩; clear PT))
  have hS2 := HROW.out.1.ext hu2
  have lS := hS2.lt
  have lf := hatf.lt
  have lt := hat2.lt
  have c1 := hS2.cell 1
  have cc := hS2.cell (2 + fa * 16 + ta * 2 + pa)
  rw [HROW.out.2.1] at c1
  rw [HROW.out.2.2, hct.out] at cc
  refine Mono.wp_region_mono [some 51, some 52, some 53, some 54, some 55, some 56, some 57, some 58, some 59, some 60, some 61, some 62, some 63, some 64, some 65, some 66, some 67, some 68, some 69, some 70, some 71, some 72] [Mono.isV (.pointer (some ⟨S, 0, none⟩)), Mono.isV (.pointer (some ⟨S, 0, none⟩)), Mono.isV (.pointer (some ⟨S, 1, none⟩)), Mono.isV (.slice pl m cl), Mono.isV (.int .i64 m), Mono.isV (.bool true), Mono.isV (.bool true), Mono.isV (.pointer (some ⟨S, 0, none⟩)), Mono.isV (.pointer (some ⟨w.heap.size, 0, none⟩)), Mono.isV (.int .i64 fa), Mono.isV (.pointer (some ⟨w1.heap.size, 0, none⟩)), Mono.isV (.int .i64 ta), Mono.isV (.pointer (some ⟨w.heap.size, 1, none⟩)), Mono.isV (.int .i64 pa), Mono.isV (.pointer (some ⟨S, 0, none⟩)), Mono.isV (.pointer (some ⟨S, 2, none⟩)), Mono.isV (.pointer (some ⟨S, 2 + fa * 16, none⟩)), Mono.isV (.pointer (some ⟨S, 2 + fa * 16 + ta * 2, none⟩)), Mono.isV (.pointer (some ⟨S, 2 + fa * 16 + ta * 2 + pa, none⟩)), Mono.isV (.bool true), Mono.isV (.bool false), Mono.isV (.bool false)] (by kernel_rfl) (by kernel_rfl) ?_ ?_
  · simp only [Mono.OpGoals, and_true]
    refine ⟨?_, ?_, ?_, ?_, ?_, ?_, ?_, ?_, ?_, ?_, ?_, ?_, ?_, ?_, ?_, ?_, ?_, ?_, ?_, ?_, ?_, ?_⟩
    · intro a u hbu hsu hdu
      have c1 := (hbu.cell (p := ⟨S, 1, none⟩) lS).trans c1; have cc := (hbu.cell (p := ⟨S, 2 + fa * 16 + ta * 2 + pa, none⟩) lS).trans cc; have df0 := (hbu.cell (p := ⟨w.heap.size, 0, none⟩) lf).trans cf0; have df1 := (hbu.cell (p := ⟨w.heap.size, 1, none⟩) lf).trans cf1; have dt0 := (hbu.cell (p := ⟨w1.heap.size, 0, none⟩) lt).trans ct0
      refine Mono.if_want rfl ?_
      exact Mono.ok_move (.tmp 0) rfl (hsu 0 (by decide))
    · intro a u hbu hsu hdu
      have c1 := (hbu.cell (p := ⟨S, 1, none⟩) lS).trans c1; have cc := (hbu.cell (p := ⟨S, 2 + fa * 16 + ta * 2 + pa, none⟩) lS).trans cc; have df0 := (hbu.cell (p := ⟨w.heap.size, 0, none⟩) lf).trans cf0; have df1 := (hbu.cell (p := ⟨w.heap.size, 1, none⟩) lf).trans cf1; have dt0 := (hbu.cell (p := ⟨w1.heap.size, 0, none⟩) lt).trans ct0
      refine Mono.if_want rfl ?_
      have z51 : a.eval (.tmp 51) = .pointer (some ⟨S, 0, none⟩) := Mono.dep_at hdu (i := 0) (d := 51) rfl rfl rfl
      simp [Act.eval] at z51
      exact Mono.ok_val (.pointer (some ⟨S, 0, none⟩)) (by simp [execOp, z51, go_sem, c1, cc, df0, df1, dt0, b9, la', lb', lq']) rfl
    · intro a u hbu hsu hdu
      have c1 := (hbu.cell (p := ⟨S, 1, none⟩) lS).trans c1; have cc := (hbu.cell (p := ⟨S, 2 + fa * 16 + ta * 2 + pa, none⟩) lS).trans cc; have df0 := (hbu.cell (p := ⟨w.heap.size, 0, none⟩) lf).trans cf0; have df1 := (hbu.cell (p := ⟨w.heap.size, 1, none⟩) lf).trans cf1; have dt0 := (hbu.cell (p := ⟨w1.heap.size, 0, none⟩) lt).trans ct0
      refine Mono.if_want rfl ?_
      have z52 : a.eval (.tmp 52) = .pointer (some ⟨S, 0, none⟩) := Mono.dep_at hdu (i := 1) (d := 52) rfl rfl rfl
      simp [Act.eval] at z52
      exact Mono.ok_val (.pointer (some ⟨S, 1, none⟩)) (by simp [execOp, z52, go_sem, c1, cc, df0, df1, dt0, b9, la', lb', lq']) rfl
    · intro a u hbu hsu hdu
      have c1 := (hbu.cell (p := ⟨S, 1, none⟩) lS).trans c1; have cc := (hbu.cell (p := ⟨S, 2 + fa * 16 + ta * 2 + pa, none⟩) lS).trans cc; have df0 := (hbu.cell (p := ⟨w.heap.size, 0, none⟩) lf).trans cf0; have df1 := (hbu.cell (p := ⟨w.heap.size, 1, none⟩) lf).trans cf1; have dt0 := (hbu.cell (p := ⟨w1.heap.size, 0, none⟩) lt).trans ct0
      refine Mono.if_want rfl ?_
      have z53 : a.eval (.tmp 53) = .pointer (some ⟨S, 1, none⟩) := Mono.dep_at hdu (i := 2) (d := 53) rfl rfl rfl
      simp [Act.eval] at z53
      exact Mono.ok_val (.slice pl m cl) (by simp [execOp, z53, go_sem, c1, cc, df0, df1, dt0, b9, la', lb', lq']) rfl
    · intro a u hbu hsu hdu
      have c1 := (hbu.cell (p := ⟨S, 1, none⟩) lS).trans c1; have cc := (hbu.cell (p := ⟨S, 2 + fa * 16 + ta * 2 + pa, none⟩) lS).trans cc; have df0 := (hbu.cell (p := ⟨w.heap.size, 0, none⟩) lf).trans cf0; have df1 := (hbu.cell (p := ⟨w.heap.size, 1, none⟩) lf).trans cf1; have dt0 := (hbu.cell (p := ⟨w1.heap.size, 0, none⟩) lt).trans ct0
      refine Mono.if_want rfl ?_
      have z54 : a.eval (.tmp 54) = .slice pl m cl := Mono.dep_at hdu (i := 3) (d := 54) rfl rfl rfl
      simp [Act.eval] at z54
      exact Mono.ok_val (.int .i64 m) (by simp [execOp, z54, go_sem, c1, cc, df0, df1, dt0, b9, la', lb', lq']) rfl
    · intro a u hbu hsu hdu
      have c1 := (hbu.cell (p := ⟨S, 1, none⟩) lS).trans c1; have cc := (hbu.cell (p := ⟨S, 2 + fa * 16 + ta * 2 + pa, none⟩) lS).trans cc; have df0 := (hbu.cell (p := ⟨w.heap.size, 0, none⟩) lf).trans cf0; have df1 := (hbu.cell (p := ⟨w.heap.size, 1, none⟩) lf).trans cf1; have dt0 := (hbu.cell (p := ⟨w1.heap.size, 0, none⟩) lt).trans ct0
      refine Mono.if_want rfl ?_
      have z55 : a.eval (.tmp 55) = .int .i64 m := Mono.dep_at hdu (i := 4) (d := 55) rfl rfl rfl
      simp [Act.eval] at z55
      exact Mono.ok_val (.bool true) (by simp [execOp, z55, go_sem, c1, cc, df0, df1, dt0, b9, la', lb', lq']) rfl
    · intro a u hbu hsu hdu
      have c1 := (hbu.cell (p := ⟨S, 1, none⟩) lS).trans c1; have cc := (hbu.cell (p := ⟨S, 2 + fa * 16 + ta * 2 + pa, none⟩) lS).trans cc; have df0 := (hbu.cell (p := ⟨w.heap.size, 0, none⟩) lf).trans cf0; have df1 := (hbu.cell (p := ⟨w.heap.size, 1, none⟩) lf).trans cf1; have dt0 := (hbu.cell (p := ⟨w1.heap.size, 0, none⟩) lt).trans ct0
      refine Mono.if_want rfl ?_
      exact Mono.ok_move (.tmp 56) rfl (Mono.dep_at hdu (i := 5) (d := 56) rfl rfl rfl)
    · intro a u hbu hsu hdu
      have c1 := (hbu.cell (p := ⟨S, 1, none⟩) lS).trans c1; have cc := (hbu.cell (p := ⟨S, 2 + fa * 16 + ta * 2 + pa, none⟩) lS).trans cc; have df0 := (hbu.cell (p := ⟨w.heap.size, 0, none⟩) lf).trans cf0; have df1 := (hbu.cell (p := ⟨w.heap.size, 1, none⟩) lf).trans cf1; have dt0 := (hbu.cell (p := ⟨w1.heap.size, 0, none⟩) lt).trans ct0
      refine Mono.if_want (Mono.want_at (c := true) rfl rfl (Mono.dep_at hdu (i := 6) (d := 57) rfl rfl rfl) rfl) ?_
      exact Mono.ok_move (.tmp 0) rfl (hsu 0 (by decide))
    · intro a u hbu hsu hdu
      have c1 := (hbu.cell (p := ⟨S, 1, none⟩) lS).trans c1; have cc := (hbu.cell (p := ⟨S, 2 + fa * 16 + ta * 2 + pa, none⟩) lS).trans cc; have df0 := (hbu.cell (p := ⟨w.heap.size, 0, none⟩) lf).trans cf0; have df1 := (hbu.cell (p := ⟨w.heap.size, 1, none⟩) lf).trans cf1; have dt0 := (hbu.cell (p := ⟨w1.heap.size, 0, none⟩) lt).trans ct0
      refine Mono.if_want (Mono.want_at (c := true) rfl rfl (Mono.dep_at hdu (i := 6) (d := 57) rfl rfl rfl) rfl) ?_
      have z5 : a.eval (.tmp 5) = .pointer (some ⟨w.heap.size, 0, none⟩) := hsu 5 (by decide)
      simp [Act.eval] at z5
      exact Mono.ok_val (.pointer (some ⟨w.heap.size, 0, none⟩)) (by simp [execOp, z5, go_sem, c1, cc, df0, df1, dt0, b9, la', lb', lq']) rfl
    · intro a u hbu hsu hdu
      have c1 := (hbu.cell (p := ⟨S, 1, none⟩) lS).trans c1; have cc := (hbu.cell (p := ⟨S, 2 + fa * 16 + ta * 2 + pa, none⟩) lS).trans cc; have df0 := (hbu.cell (p := ⟨w.heap.size, 0, none⟩) lf).trans cf0; have df1 := (hbu.cell (p := ⟨w.heap.size, 1, none⟩) lf).trans cf1; have dt0 := (hbu.cell (p := ⟨w1.heap.size, 0, none⟩) lt).trans ct0
      refine Mono.if_want (Mono.want_at (c := true) rfl rfl (Mono.dep_at hdu (i := 6) (d := 57) rfl rfl rfl) rfl) ?_
      have z59 : a.eval (.tmp 59) = .pointer (some ⟨w.heap.size, 0, none⟩) := Mono.dep_at hdu (i := 8) (d := 59) rfl rfl rfl
      simp [Act.eval] at z59
      exact Mono.ok_val (.int .i64 fa) (by simp [execOp, z59, go_sem, c1, cc, df0, df1, dt0, b9, la', lb', lq']) rfl
    · intro a u hbu hsu hdu
      have c1 := (hbu.cell (p := ⟨S, 1, none⟩) lS).trans c1; have cc := (hbu.cell (p := ⟨S, 2 + fa * 16 + ta * 2 + pa, none⟩) lS).trans cc; have df0 := (hbu.cell (p := ⟨w.heap.size, 0, none⟩) lf).trans cf0; have df1 := (hbu.cell (p := ⟨w.heap.size, 1, none⟩) lf).trans cf1; have dt0 := (hbu.cell (p := ⟨w1.heap.size, 0, none⟩) lt).trans ct0
      refine Mono.if_want (Mono.want_at (c := true) rfl rfl (Mono.dep_at hdu (i := 6) (d := 57) rfl rfl rfl) rfl) ?_
      have z6 : a.eval (.tmp 6) = .pointer (some ⟨w1.heap.size, 0, none⟩) := hsu 6 (by decide)
      simp [Act.eval] at z6
      exact Mono.ok_val (.pointer (some ⟨w1.heap.size, 0, none⟩)) (by simp [execOp, z6, go_sem, c1, cc, df0, df1, dt0, b9, la', lb', lq']) rfl
    · intro a u hbu hsu hdu
      have c1 := (hbu.cell (p := ⟨S, 1, none⟩) lS).trans c1; have cc := (hbu.cell (p := ⟨S, 2 + fa * 16 + ta * 2 + pa, none⟩) lS).trans cc; have df0 := (hbu.cell (p := ⟨w.heap.size, 0, none⟩) lf).trans cf0; have df1 := (hbu.cell (p := ⟨w.heap.size, 1, none⟩) lf).trans cf1; have dt0 := (hbu.cell (p := ⟨w1.heap.size, 0, none⟩) lt).trans ct0
      refine Mono.if_want (Mono.want_at (c := true) rfl rfl (Mono.dep_at hdu (i := 6) (d := 57) rfl rfl rfl) rfl) ?_
      have z61 : a.eval (.tmp 61) = .pointer (some ⟨w1.heap.size, 0, none⟩) := Mono.dep_at hdu (i := 10) (d := 61) rfl rfl rfl
      simp [Act.eval] at z61
      exact Mono.ok_val (.int .i64 ta) (by simp [execOp, z61, go_sem, c1, cc, df0, df1, dt0, b9, la', lb', lq']) rfl
    · intro a u hbu hsu hdu
      have c1 := (hbu.cell (p := ⟨S, 1, none⟩) lS).trans c1; have cc := (hbu.cell (p := ⟨S, 2 + fa * 16 + ta * 2 + pa, none⟩) lS).trans cc; have df0 := (hbu.cell (p := ⟨w.heap.size, 0, none⟩) lf).trans cf0; have df1 := (hbu.cell (p := ⟨w.heap.size, 1, none⟩) lf).trans cf1; have dt0 := (hbu.cell (p := ⟨w1.heap.size, 0, none⟩) lt).trans ct0
      refine Mono.if_want (Mono.want_at (c := true) rfl rfl (Mono.dep_at hdu (i := 6) (d := 57) rfl rfl rfl) rfl) ?_
      have z5 : a.eval (.tmp 5) = .pointer (some ⟨w.heap.size, 0, none⟩) := hsu 5 (by decide)
      simp [Act.eval] at z5
      exact Mono.ok_val (.pointer (some ⟨w.heap.size, 1, none⟩)) (by simp [execOp, z5, go_sem, c1, cc, df0, df1, dt0, b9, la', lb', lq']) rfl
    · intro a u hbu hsu hdu
      have c1 := (hbu.cell (p := ⟨S, 1, none⟩) lS).trans c1; have cc := (hbu.cell (p := ⟨S, 2 + fa * 16 + ta * 2 + pa, none⟩) lS).trans cc; have df0 := (hbu.cell (p := ⟨w.heap.size, 0, none⟩) lf).trans cf0; have df1 := (hbu.cell (p := ⟨w.heap.size, 1, none⟩) lf).trans cf1; have dt0 := (hbu.cell (p := ⟨w1.heap.size, 0, none⟩) lt).trans ct0
      refine Mono.if_want (Mono.want_at (c := true) rfl rfl (Mono.dep_at hdu (i := 6) (d := 57) rfl rfl rfl) rfl) ?_
      have z63 : a.eval (.tmp 63) = .pointer (some ⟨w.heap.size, 1, none⟩) := Mono.dep_at hdu (i := 12) (d := 63) rfl rfl rfl
      simp [Act.eval] at z63
      exact Mono.ok_val (.int .i64 pa) (by simp [execOp, z63, go_sem, c1, cc, df0, df1, dt0, b9, la', lb', lq']) rfl
    · intro a u hbu hsu hdu
      have c1 := (hbu.cell (p := ⟨S, 1, none⟩) lS).trans c1; have cc := (hbu.cell (p := ⟨S, 2 + fa * 16 + ta * 2 + pa, none⟩) lS).trans cc; have df0 := (hbu.cell (p := ⟨w.heap.size, 0, none⟩) lf).trans cf0; have df1 := (hbu.cell (p := ⟨w.heap.size, 1, none⟩) lf).trans cf1; have dt0 := (hbu.cell (p := ⟨w1.heap.size, 0, none⟩) lt).trans ct0
      refine Mono.if_want (Mono.want_at (c := true) rfl rfl (Mono.dep_at hdu (i := 6) (d := 57) rfl rfl rfl) rfl) ?_
      have z58 : a.eval (.tmp 58) = .pointer (some ⟨S, 0, none⟩) := Mono.dep_at hdu (i := 7) (d := 58) rfl rfl rfl
      simp [Act.eval] at z58
      exact Mono.ok_val (.pointer (some ⟨S, 0, none⟩)) (by simp [execOp, z58, go_sem, c1, cc, df0, df1, dt0, b9, la', lb', lq']) rfl
    · intro a u hbu hsu hdu
      have c1 := (hbu.cell (p := ⟨S, 1, none⟩) lS).trans c1; have cc := (hbu.cell (p := ⟨S, 2 + fa * 16 + ta * 2 + pa, none⟩) lS).trans cc; have df0 := (hbu.cell (p := ⟨w.heap.size, 0, none⟩) lf).trans cf0; have df1 := (hbu.cell (p := ⟨w.heap.size, 1, none⟩) lf).trans cf1; have dt0 := (hbu.cell (p := ⟨w1.heap.size, 0, none⟩) lt).trans ct0
      refine Mono.if_want (Mono.want_at (c := true) rfl rfl (Mono.dep_at hdu (i := 6) (d := 57) rfl rfl rfl) rfl) ?_
      have z65 : a.eval (.tmp 65) = .pointer (some ⟨S, 0, none⟩) := Mono.dep_at hdu (i := 14) (d := 65) rfl rfl rfl
      simp [Act.eval] at z65
      exact Mono.ok_val (.pointer (some ⟨S, 2, none⟩)) (by simp [execOp, z65, go_sem, c1, cc, df0, df1, dt0, b9, la', lb', lq']) rfl
    · intro a u hbu hsu hdu
      have c1 := (hbu.cell (p := ⟨S, 1, none⟩) lS).trans c1; have cc := (hbu.cell (p := ⟨S, 2 + fa * 16 + ta * 2 + pa, none⟩) lS).trans cc; have df0 := (hbu.cell (p := ⟨w.heap.size, 0, none⟩) lf).trans cf0; have df1 := (hbu.cell (p := ⟨w.heap.size, 1, none⟩) lf).trans cf1; have dt0 := (hbu.cell (p := ⟨w1.heap.size, 0, none⟩) lt).trans ct0
      refine Mono.if_want (Mono.want_at (c := true) rfl rfl (Mono.dep_at hdu (i := 6) (d := 57) rfl rfl rfl) rfl) ?_
      have z66 : a.eval (.tmp 66) = .pointer (some ⟨S, 2, none⟩) := Mono.dep_at hdu (i := 15) (d := 66) rfl rfl rfl
      simp [Act.eval] at z66
      have z60 : a.eval (.tmp 60) = .int .i64 fa := Mono.dep_at hdu (i := 9) (d := 60) rfl rfl rfl
      simp [Act.eval] at z60
      exact Mono.ok_val (.pointer (some ⟨S, 2 + fa * 16, none⟩)) (by simp [execOp, z66, z60, go_sem, c1, cc, df0, df1, dt0, b9, la', lb', lq']) rfl
    · intro a u hbu hsu hdu
      have c1 := (hbu.cell (p := ⟨S, 1, none⟩) lS).trans c1; have cc := (hbu.cell (p := ⟨S, 2 + fa * 16 + ta * 2 + pa, none⟩) lS).trans cc; have df0 := (hbu.cell (p := ⟨w.heap.size, 0, none⟩) lf).trans cf0; have df1 := (hbu.cell (p := ⟨w.heap.size, 1, none⟩) lf).trans cf1; have dt0 := (hbu.cell (p := ⟨w1.heap.size, 0, none⟩) lt).trans ct0
      refine Mono.if_want (Mono.want_at (c := true) rfl rfl (Mono.dep_at hdu (i := 6) (d := 57) rfl rfl rfl) rfl) ?_
      have z67 : a.eval (.tmp 67) = .pointer (some ⟨S, 2 + fa * 16, none⟩) := Mono.dep_at hdu (i := 16) (d := 67) rfl rfl rfl
      simp [Act.eval] at z67
      have z62 : a.eval (.tmp 62) = .int .i64 ta := Mono.dep_at hdu (i := 11) (d := 62) rfl rfl rfl
      simp [Act.eval] at z62
      exact Mono.ok_val (.pointer (some ⟨S, 2 + fa * 16 + ta * 2, none⟩)) (by simp [execOp, z67, z62, go_sem, c1, cc, df0, df1, dt0, b9, la', lb', lq']) rfl
    · intro a u hbu hsu hdu
      have c1 := (hbu.cell (p := ⟨S, 1, none⟩) lS).trans c1; have cc := (hbu.cell (p := ⟨S, 2 + fa * 16 + ta * 2 + pa, none⟩) lS).trans cc; have df0 := (hbu.cell (p := ⟨w.heap.size, 0, none⟩) lf).trans cf0; have df1 := (hbu.cell (p := ⟨w.heap.size, 1, none⟩) lf).trans cf1; have dt0 := (hbu.cell (p := ⟨w1.heap.size, 0, none⟩) lt).trans ct0
      refine Mono.if_want (Mono.want_at (c := true) rfl rfl (Mono.dep_at hdu (i := 6) (d := 57) rfl rfl rfl) rfl) ?_
      have z68 : a.eval (.tmp 68) = .pointer (some ⟨S, 2 + fa * 16 + ta * 2, none⟩) := Mono.dep_at hdu (i := 17) (d := 68) rfl rfl rfl
      simp [Act.eval] at z68
      have z64 : a.eval (.tmp 64) = .int .i64 pa := Mono.dep_at hdu (i := 13) (d := 64) rfl rfl rfl
      simp [Act.eval] at z64
      exact Mono.ok_val (.pointer (some ⟨S, 2 + fa * 16 + ta * 2 + pa, none⟩)) (by simp [execOp, z68, z64, go_sem, c1, cc, df0, df1, dt0, b9, la', lb', lq']) rfl
    · intro a u hbu hsu hdu
      have c1 := (hbu.cell (p := ⟨S, 1, none⟩) lS).trans c1; have cc := (hbu.cell (p := ⟨S, 2 + fa * 16 + ta * 2 + pa, none⟩) lS).trans cc; have df0 := (hbu.cell (p := ⟨w.heap.size, 0, none⟩) lf).trans cf0; have df1 := (hbu.cell (p := ⟨w.heap.size, 1, none⟩) lf).trans cf1; have dt0 := (hbu.cell (p := ⟨w1.heap.size, 0, none⟩) lt).trans ct0
      refine Mono.if_want (Mono.want_at (c := true) rfl rfl (Mono.dep_at hdu (i := 6) (d := 57) rfl rfl rfl) rfl) ?_
      have z69 : a.eval (.tmp 69) = .pointer (some ⟨S, 2 + fa * 16 + ta * 2 + pa, none⟩) := Mono.dep_at hdu (i := 18) (d := 69) rfl rfl rfl
      simp [Act.eval] at z69
      exact Mono.ok_val (.bool true) (by simp [execOp, z69, go_sem, c1, cc, df0, df1, dt0, b9, la', lb', lq']) rfl
    · intro a u hbu hsu hdu
      have c1 := (hbu.cell (p := ⟨S, 1, none⟩) lS).trans c1; have cc := (hbu.cell (p := ⟨S, 2 + fa * 16 + ta * 2 + pa, none⟩) lS).trans cc; have df0 := (hbu.cell (p := ⟨w.heap.size, 0, none⟩) lf).trans cf0; have df1 := (hbu.cell (p := ⟨w.heap.size, 1, none⟩) lf).trans cf1; have dt0 := (hbu.cell (p := ⟨w1.heap.size, 0, none⟩) lt).trans ct0
      refine Mono.if_want (Mono.want_at (c := true) rfl rfl (Mono.dep_at hdu (i := 6) (d := 57) rfl rfl rfl) rfl) ?_
      have z70 : a.eval (.tmp 70) = .bool true := Mono.dep_at hdu (i := 19) (d := 70) rfl rfl rfl
      simp [Act.eval] at z70
      exact Mono.ok_val (.bool false) (by simp [execOp, z70, go_sem, c1, cc, df0, df1, dt0, b9, la', lb', lq']) rfl
    · intro a u hbu hsu hdu
      have c1 := (hbu.cell (p := ⟨S, 1, none⟩) lS).trans c1; have cc := (hbu.cell (p := ⟨S, 2 + fa * 16 + ta * 2 + pa, none⟩) lS).trans cc; have df0 := (hbu.cell (p := ⟨w.heap.size, 0, none⟩) lf).trans cf0; have df1 := (hbu.cell (p := ⟨w.heap.size, 1, none⟩) lf).trans cf1; have dt0 := (hbu.cell (p := ⟨w1.heap.size, 0, none⟩) lt).trans ct0
      refine Mono.if_want rfl ?_
      have z57 : a.eval (.tmp 57) = .bool true := Mono.dep_at hdu (i := 6) (d := 57) rfl rfl rfl
      simp [Act.eval] at z57
      have z71 : a.eval (.tmp 71) = .bool false := Mono.dep_at hdu (i := 20) (d := 71) rfl rfl rfl
      simp [Act.eval] at z71
      exact Mono.ok_val (.bool false) (by simp [execOp, z57, z71, go_sem, c1, cc, df0, df1, dt0, b9, la', lb', lq']) rfl
  intro u hu
  simp only [Mono.Fin]
  rintro _ rfl _ rfl _ rfl _ rfl _ rfl _ rfl _ rfl _ rfl _ rfl _ rfl _ rfl _ rfl _ rfl _ rfl _ rfl _ rfl _ rfl _ rfl _ rfl _ rfl _ rfl _ rfl
  simp [Act.put]
  go_wp2_with fail
  go_ret
  exact ⟨rfl, hu2.trans (hu.mono hu2.size)⟩
set_option maxRecDepth 100000 in
set_option maxHeartbeats 3200000 in
theorem rSendGoes {X : Nat → Prop} {w : World} {S : Nat} {hosts : Int} {fs : List F} {cut : Int → Int → Int → Bool} (h : RNet X w S hosts fs cut) (fh fp th tp : Int) (v : Value) (xs : List Int) (hr : Reads .u8 w v xs) (hx : ∀ x ∈ xs, 0 ≤ x ∧ x ≤ 255) (hok : sendArg hosts fh fp th tp = true) (hn : xs.length ≤ 4096) (hno : fs.length < 1024) (hct : cut fh th fp = false) :
    Calls Try.prog 26 #[.pointer (some ⟨S, 0, none⟩), .agg #[.int .i64 fh, .int .i64 fp], .agg #[.int .i64 th, .int .i64 tp], v] w fun e w' => e = .returned (.int .i64 0) ∧ RNet (more X w w') w' S hosts (fs ++ [⟨fh, fp, th, tp, xs, false⟩]) cut ∧ ButX X w w' := by
  have PC := Lib.hid (fun (a b c d : Int) u (hu : Below w.heap.size w u) => ownF ⟨a, b, c, d, xs, false⟩ v u (hr.below hu) hn)
  obtain ⟨p, c, rfl, _⟩ := hr
  obtain ⟨zs, pl, m, cl, ds, h⟩ := h
  have HNO := Lib.hid (show m < 1024 by have := h.flen; omega)
  have HZ : zs.length ≤ 99999 := by have := h.len; have := HNO.out; omega
  have H := Lib.hid h
  have HDS := Lib.hid h.size
  have HFO := Lib.hid (show (⟨fh, fp, th, tp, xs, false⟩ : F).ok from ⟨hn, hx⟩)
  obtain ⟨n, hn2⟩ : ∃ n, xs.length = n := ⟨_, rfl⟩
  rw [hn2] at hn
  simp only [hn2] at PC ⊢
  have HQ := Lib.hid hn2
  clear hn2
  obtain ⟨ha, hb, e1, ⟨t0, t1⟩, fa, ta, pa, rfl, rfl, rfl, la, lb, lq⟩ := sendArg_nat h.hosts.2 hok
  have PF := Lib.hid (fun u (hu : Below w.heap.size w u) => by have := rHost S hosts fa ds u (h.row.ext hu) h.h0; rwa [ha] at this)
  have PT := Lib.hid (fun u (hu : Below w.heap.size w u) => by have := rHost S hosts ta ds u (h.row.ext hu) h.h0; rwa [hb] at this)
  have e2 : decide (1 < (pa : Int)) = false := decide_eq_false (by omega)
  have e3 : decide (1 < tp) = false := decide_eq_false (by omega)
  have la' : (fa : Int) < 8 := by omega
  have lb' : (ta : Int) < 8 := by omega
  have lq' : (pa : Int) < 2 := by omega
  have HML : m ≤ 1024 := by have := h.ok.1; rwa [h.flen] at this
  have b9 : decide ((m : Int) < 1024) = true := decide_eq_true (by have := h.flen; omega)
  have hct := Lib.hid hct
  have HROW := Lib.hid (And.intro h.row (And.intro h.h1 (h.says fa ta pa la lb lq)))
  clear ha hb hok h
  go_enter Try.func26, Try.ntmps26
  go_upto_region 5 with (first
    | ((with_reducible refine wpl_boxAt rfl 30 (.tmp 1) rfl #[.int .i64 fa, .int .i64 pa] ?_ ?_); rfl; go_must (intro w1 hat1 hb1 hs1; have HS1 := Lib.hid hs1))
    | ((with_reducible refine wpl_boxAt rfl 30 (.tmp 2) rfl #[.int .i64 ta, .int .i64 tp] ?_ ?_); rfl; go_must (intro w2 hat2 hb2 hs2; clear hs2; have hatf := hat1.ext hb2; have hu2 := hb1.trans (hb2.mono hb1.size); clear hat1 hb2 hs1; have cf0 := hatf.cell 0; have cf1 := hatf.cell 1; have ct0 := hat2.cell 0; have ct1 := hat2.cell 1; simp at cf0 cf1 ct0 ct1))
    | (go_at_call 36; (with_reducible refine (PF.out _ hu2).mono ?_); rintro e w3 ⟨rfl, rfl⟩; clear PF)
    | (go_at_call 36; (with_reducible refine (PT.out _ hu2).mono ?_); rintro e w3 ⟨rfl, rfl⟩; clear PT))
  have hS2 := HROW.out.1.ext hu2
  have lS := hS2.lt
  have lf := hatf.lt
  have lt := hat2.lt
  have c1 := hS2.cell 1
  have cc := hS2.cell (2 + fa * 16 + ta * 2 + pa)
  rw [HROW.out.2.1] at c1
  rw [HROW.out.2.2, hct.out] at cc
  refine Mono.wp_region_mono [some 51, some 52, some 53, some 54, some 55, some 56, some 57, some 58, some 59, some 60, some 61, some 62, some 63, some 64, some 65, some 66, some 67, some 68, some 69, some 70, some 71, some 72] [Mono.isV (.pointer (some ⟨S, 0, none⟩)), Mono.isV (.pointer (some ⟨S, 0, none⟩)), Mono.isV (.pointer (some ⟨S, 1, none⟩)), Mono.isV (.slice pl m cl), Mono.isV (.int .i64 m), Mono.isV (.bool true), Mono.isV (.bool true), Mono.isV (.pointer (some ⟨S, 0, none⟩)), Mono.isV (.pointer (some ⟨w.heap.size, 0, none⟩)), Mono.isV (.int .i64 fa), Mono.isV (.pointer (some ⟨w1.heap.size, 0, none⟩)), Mono.isV (.int .i64 ta), Mono.isV (.pointer (some ⟨w.heap.size, 1, none⟩)), Mono.isV (.int .i64 pa), Mono.isV (.pointer (some ⟨S, 0, none⟩)), Mono.isV (.pointer (some ⟨S, 2, none⟩)), Mono.isV (.pointer (some ⟨S, 2 + fa * 16, none⟩)), Mono.isV (.pointer (some ⟨S, 2 + fa * 16 + ta * 2, none⟩)), Mono.isV (.pointer (some ⟨S, 2 + fa * 16 + ta * 2 + pa, none⟩)), Mono.isV (.bool false), Mono.isV (.bool true), Mono.isV (.bool true)] (by kernel_rfl) (by kernel_rfl) ?_ ?_
  · simp only [Mono.OpGoals, and_true]
    refine ⟨?_, ?_, ?_, ?_, ?_, ?_, ?_, ?_, ?_, ?_, ?_, ?_, ?_, ?_, ?_, ?_, ?_, ?_, ?_, ?_, ?_, ?_⟩
    · intro a u hbu hsu hdu
      have c1 := (hbu.cell (p := ⟨S, 1, none⟩) lS).trans c1; have cc := (hbu.cell (p := ⟨S, 2 + fa * 16 + ta * 2 + pa, none⟩) lS).trans cc; have df0 := (hbu.cell (p := ⟨w.heap.size, 0, none⟩) lf).trans cf0; have df1 := (hbu.cell (p := ⟨w.heap.size, 1, none⟩) lf).trans cf1; have dt0 := (hbu.cell (p := ⟨w1.heap.size, 0, none⟩) lt).trans ct0
      refine Mono.if_want rfl ?_
      exact Mono.ok_move (.tmp 0) rfl (hsu 0 (by decide))
    · intro a u hbu hsu hdu
      have c1 := (hbu.cell (p := ⟨S, 1, none⟩) lS).trans c1; have cc := (hbu.cell (p := ⟨S, 2 + fa * 16 + ta * 2 + pa, none⟩) lS).trans cc; have df0 := (hbu.cell (p := ⟨w.heap.size, 0, none⟩) lf).trans cf0; have df1 := (hbu.cell (p := ⟨w.heap.size, 1, none⟩) lf).trans cf1; have dt0 := (hbu.cell (p := ⟨w1.heap.size, 0, none⟩) lt).trans ct0
      refine Mono.if_want rfl ?_
      have z51 : a.eval (.tmp 51) = .pointer (some ⟨S, 0, none⟩) := Mono.dep_at hdu (i := 0) (d := 51) rfl rfl rfl
      simp [Act.eval] at z51
      exact Mono.ok_val (.pointer (some ⟨S, 0, none⟩)) (by simp [execOp, z51, go_sem, c1, cc, df0, df1, dt0, b9, la', lb', lq']) rfl
    · intro a u hbu hsu hdu
      have c1 := (hbu.cell (p := ⟨S, 1, none⟩) lS).trans c1; have cc := (hbu.cell (p := ⟨S, 2 + fa * 16 + ta * 2 + pa, none⟩) lS).trans cc; have df0 := (hbu.cell (p := ⟨w.heap.size, 0, none⟩) lf).trans cf0; have df1 := (hbu.cell (p := ⟨w.heap.size, 1, none⟩) lf).trans cf1; have dt0 := (hbu.cell (p := ⟨w1.heap.size, 0, none⟩) lt).trans ct0
      refine Mono.if_want rfl ?_
      have z52 : a.eval (.tmp 52) = .pointer (some ⟨S, 0, none⟩) := Mono.dep_at hdu (i := 1) (d := 52) rfl rfl rfl
      simp [Act.eval] at z52
      exact Mono.ok_val (.pointer (some ⟨S, 1, none⟩)) (by simp [execOp, z52, go_sem, c1, cc, df0, df1, dt0, b9, la', lb', lq']) rfl
    · intro a u hbu hsu hdu
      have c1 := (hbu.cell (p := ⟨S, 1, none⟩) lS).trans c1; have cc := (hbu.cell (p := ⟨S, 2 + fa * 16 + ta * 2 + pa, none⟩) lS).trans cc; have df0 := (hbu.cell (p := ⟨w.heap.size, 0, none⟩) lf).trans cf0; have df1 := (hbu.cell (p := ⟨w.heap.size, 1, none⟩) lf).trans cf1; have dt0 := (hbu.cell (p := ⟨w1.heap.size, 0, none⟩) lt).trans ct0
      refine Mono.if_want rfl ?_
      have z53 : a.eval (.tmp 53) = .pointer (some ⟨S, 1, none⟩) := Mono.dep_at hdu (i := 2) (d := 53) rfl rfl rfl
      simp [Act.eval] at z53
      exact Mono.ok_val (.slice pl m cl) (by simp [execOp, z53, go_sem, c1, cc, df0, df1, dt0, b9, la', lb', lq']) rfl
    · intro a u hbu hsu hdu
      have c1 := (hbu.cell (p := ⟨S, 1, none⟩) lS).trans c1; have cc := (hbu.cell (p := ⟨S, 2 + fa * 16 + ta * 2 + pa, none⟩) lS).trans cc; have df0 := (hbu.cell (p := ⟨w.heap.size, 0, none⟩) lf).trans cf0; have df1 := (hbu.cell (p := ⟨w.heap.size, 1, none⟩) lf).trans cf1; have dt0 := (hbu.cell (p := ⟨w1.heap.size, 0, none⟩) lt).trans ct0
      refine Mono.if_want rfl ?_
      have z54 : a.eval (.tmp 54) = .slice pl m cl := Mono.dep_at hdu (i := 3) (d := 54) rfl rfl rfl
      simp [Act.eval] at z54
      exact Mono.ok_val (.int .i64 m) (by simp [execOp, z54, go_sem, c1, cc, df0, df1, dt0, b9, la', lb', lq']) rfl
    · intro a u hbu hsu hdu
      have c1 := (hbu.cell (p := ⟨S, 1, none⟩) lS).trans c1; have cc := (hbu.cell (p := ⟨S, 2 + fa * 16 + ta * 2 + pa, none⟩) lS).trans cc; have df0 := (hbu.cell (p := ⟨w.heap.size, 0, none⟩) lf).trans cf0; have df1 := (hbu.cell (p := ⟨w.heap.size, 1, none⟩) lf).trans cf1; have dt0 := (hbu.cell (p := ⟨w1.heap.size, 0, none⟩) lt).trans ct0
      refine Mono.if_want rfl ?_
      have z55 : a.eval (.tmp 55) = .int .i64 m := Mono.dep_at hdu (i := 4) (d := 55) rfl rfl rfl
      simp [Act.eval] at z55
      exact Mono.ok_val (.bool true) (by simp [execOp, z55, go_sem, c1, cc, df0, df1, dt0, b9, la', lb', lq']) rfl
    · intro a u hbu hsu hdu
      have c1 := (hbu.cell (p := ⟨S, 1, none⟩) lS).trans c1; have cc := (hbu.cell (p := ⟨S, 2 + fa * 16 + ta * 2 + pa, none⟩) lS).trans cc; have df0 := (hbu.cell (p := ⟨w.heap.size, 0, none⟩) lf).trans cf0; have df1 := (hbu.cell (p := ⟨w.heap.size, 1, none⟩) lf).trans cf1; have dt0 := (hbu.cell (p := ⟨w1.heap.size, 0, none⟩) lt).trans ct0
      refine Mono.if_want rfl ?_
      exact Mono.ok_move (.tmp 56) rfl (Mono.dep_at hdu (i := 5) (d := 56) rfl rfl rfl)
    · intro a u hbu hsu hdu
      have c1 := (hbu.cell (p := ⟨S, 1, none⟩) lS).trans c1; have cc := (hbu.cell (p := ⟨S, 2 + fa * 16 + ta * 2 + pa, none⟩) lS).trans cc; have df0 := (hbu.cell (p := ⟨w.heap.size, 0, none⟩) lf).trans cf0; have df1 := (hbu.cell (p := ⟨w.heap.size, 1, none⟩) lf).trans cf1; have dt0 := (hbu.cell (p := ⟨w1.heap.size, 0, none⟩) lt).trans ct0
      refine Mono.if_want (Mono.want_at (c := true) rfl rfl (Mono.dep_at hdu (i := 6) (d := 57) rfl rfl rfl) rfl) ?_
      exact Mono.ok_move (.tmp 0) rfl (hsu 0 (by decide))
    · intro a u hbu hsu hdu
      have c1 := (hbu.cell (p := ⟨S, 1, none⟩) lS).trans c1; have cc := (hbu.cell (p := ⟨S, 2 + fa * 16 + ta * 2 + pa, none⟩) lS).trans cc; have df0 := (hbu.cell (p := ⟨w.heap.size, 0, none⟩) lf).trans cf0; have df1 := (hbu.cell (p := ⟨w.heap.size, 1, none⟩) lf).trans cf1; have dt0 := (hbu.cell (p := ⟨w1.heap.size, 0, none⟩) lt).trans ct0
      refine Mono.if_want (Mono.want_at (c := true) rfl rfl (Mono.dep_at hdu (i := 6) (d := 57) rfl rfl rfl) rfl) ?_
      have z5 : a.eval (.tmp 5) = .pointer (some ⟨w.heap.size, 0, none⟩) := hsu 5 (by decide)
      simp [Act.eval] at z5
      exact Mono.ok_val (.pointer (some ⟨w.heap.size, 0, none⟩)) (by simp [execOp, z5, go_sem, c1, cc, df0, df1, dt0, b9, la', lb', lq']) rfl
    · intro a u hbu hsu hdu
      have c1 := (hbu.cell (p := ⟨S, 1, none⟩) lS).trans c1; have cc := (hbu.cell (p := ⟨S, 2 + fa * 16 + ta * 2 + pa, none⟩) lS).trans cc; have df0 := (hbu.cell (p := ⟨w.heap.size, 0, none⟩) lf).trans cf0; have df1 := (hbu.cell (p := ⟨w.heap.size, 1, none⟩) lf).trans cf1; have dt0 := (hbu.cell (p := ⟨w1.heap.size, 0, none⟩) lt).trans ct0
      refine Mono.if_want (Mono.want_at (c := true) rfl rfl (Mono.dep_at hdu (i := 6) (d := 57) rfl rfl rfl) rfl) ?_
      have z59 : a.eval (.tmp 59) = .pointer (some ⟨w.heap.size, 0, none⟩) := Mono.dep_at hdu (i := 8) (d := 59) rfl rfl rfl
      simp [Act.eval] at z59
      exact Mono.ok_val (.int .i64 fa) (by simp [execOp, z59, go_sem, c1, cc, df0, df1, dt0, b9, la', lb', lq']) rfl
    · intro a u hbu hsu hdu
      have c1 := (hbu.cell (p := ⟨S, 1, none⟩) lS).trans c1; have cc := (hbu.cell (p := ⟨S, 2 + fa * 16 + ta * 2 + pa, none⟩) lS).trans cc; have df0 := (hbu.cell (p := ⟨w.heap.size, 0, none⟩) lf).trans cf0; have df1 := (hbu.cell (p := ⟨w.heap.size, 1, none⟩) lf).trans cf1; have dt0 := (hbu.cell (p := ⟨w1.heap.size, 0, none⟩) lt).trans ct0
      refine Mono.if_want (Mono.want_at (c := true) rfl rfl (Mono.dep_at hdu (i := 6) (d := 57) rfl rfl rfl) rfl) ?_
      have z6 : a.eval (.tmp 6) = .pointer (some ⟨w1.heap.size, 0, none⟩) := hsu 6 (by decide)
      simp [Act.eval] at z6
      exact Mono.ok_val (.pointer (some ⟨w1.heap.size, 0, none⟩)) (by simp [execOp, z6, go_sem, c1, cc, df0, df1, dt0, b9, la', lb', lq']) rfl
    · intro a u hbu hsu hdu
      have c1 := (hbu.cell (p := ⟨S, 1, none⟩) lS).trans c1; have cc := (hbu.cell (p := ⟨S, 2 + fa * 16 + ta * 2 + pa, none⟩) lS).trans cc; have df0 := (hbu.cell (p := ⟨w.heap.size, 0, none⟩) lf).trans cf0; have df1 := (hbu.cell (p := ⟨w.heap.size, 1, none⟩) lf).trans cf1; have dt0 := (hbu.cell (p := ⟨w1.heap.size, 0, none⟩) lt).trans ct0
      refine Mono.if_want (Mono.want_at (c := true) rfl rfl (Mono.dep_at hdu (i := 6) (d := 57) rfl rfl rfl) rfl) ?_
      have z61 : a.eval (.tmp 61) = .pointer (some ⟨w1.heap.size, 0, none⟩) := Mono.dep_at hdu (i := 10) (d := 61) rfl rfl rfl
      simp [Act.eval] at z61
      exact Mono.ok_val (.int .i64 ta) (by simp [execOp, z61, go_sem, c1, cc, df0, df1, dt0, b9, la', lb', lq']) rfl
    · intro a u hbu hsu hdu
      have c1 := (hbu.cell (p := ⟨S, 1, none⟩) lS).trans c1; have cc := (hbu.cell (p := ⟨S, 2 + fa * 16 + ta * 2 + pa, none⟩) lS).trans cc; have df0 := (hbu.cell (p := ⟨w.heap.size, 0, none⟩) lf).trans cf0; have df1 := (hbu.cell (p := ⟨w.heap.size, 1, none⟩) lf).trans cf1; have dt0 := (hbu.cell (p := ⟨w1.heap.size, 0, none⟩) lt).trans ct0
      refine Mono.if_want (Mono.want_at (c := true) rfl rfl (Mono.dep_at hdu (i := 6) (d := 57) rfl rfl rfl) rfl) ?_
      have z5 : a.eval (.tmp 5) = .pointer (some ⟨w.heap.size, 0, none⟩) := hsu 5 (by decide)
      simp [Act.eval] at z5
      exact Mono.ok_val (.pointer (some ⟨w.heap.size, 1, none⟩)) (by simp [execOp, z5, go_sem, c1, cc, df0, df1, dt0, b9, la', lb', lq']) rfl
    · intro a u hbu hsu hdu
      have c1 := (hbu.cell (p := ⟨S, 1, none⟩) lS).trans c1; have cc := (hbu.cell (p := ⟨S, 2 + fa * 16 + ta * 2 + pa, none⟩) lS).trans cc; have df0 := (hbu.cell (p := ⟨w.heap.size, 0, none⟩) lf).trans cf0; have df1 := (hbu.cell (p := ⟨w.heap.size, 1, none⟩) lf).trans cf1; have dt0 := (hbu.cell (p := ⟨w1.heap.size, 0, none⟩) lt).trans ct0
      refine Mono.if_want (Mono.want_at (c := true) rfl rfl (Mono.dep_at hdu (i := 6) (d := 57) rfl rfl rfl) rfl) ?_
      have z63 : a.eval (.tmp 63) = .pointer (some ⟨w.heap.size, 1, none⟩) := Mono.dep_at hdu (i := 12) (d := 63) rfl rfl rfl
      simp [Act.eval] at z63
      exact Mono.ok_val (.int .i64 pa) (by simp [execOp, z63, go_sem, c1, cc, df0, df1, dt0, b9, la', lb', lq']) rfl
    · intro a u hbu hsu hdu
      have c1 := (hbu.cell (p := ⟨S, 1, none⟩) lS).trans c1; have cc := (hbu.cell (p := ⟨S, 2 + fa * 16 + ta * 2 + pa, none⟩) lS).trans cc; have df0 := (hbu.cell (p := ⟨w.heap.size, 0, none⟩) lf).trans cf0; have df1 := (hbu.cell (p := ⟨w.heap.size, 1, none⟩) lf).trans cf1; have dt0 := (hbu.cell (p := ⟨w1.heap.size, 0, none⟩) lt).trans ct0
      refine Mono.if_want (Mono.want_at (c := true) rfl rfl (Mono.dep_at hdu (i := 6) (d := 57) rfl rfl rfl) rfl) ?_
      have z58 : a.eval (.tmp 58) = .pointer (some ⟨S, 0, none⟩) := Mono.dep_at hdu (i := 7) (d := 58) rfl rfl rfl
      simp [Act.eval] at z58
      exact Mono.ok_val (.pointer (some ⟨S, 0, none⟩)) (by simp [execOp, z58, go_sem, c1, cc, df0, df1, dt0, b9, la', lb', lq']) rfl
    · intro a u hbu hsu hdu
      have c1 := (hbu.cell (p := ⟨S, 1, none⟩) lS).trans c1; have cc := (hbu.cell (p := ⟨S, 2 + fa * 16 + ta * 2 + pa, none⟩) lS).trans cc; have df0 := (hbu.cell (p := ⟨w.heap.size, 0, none⟩) lf).trans cf0; have df1 := (hbu.cell (p := ⟨w.heap.size, 1, none⟩) lf).trans cf1; have dt0 := (hbu.cell (p := ⟨w1.heap.size, 0, none⟩) lt).trans ct0
      refine Mono.if_want (Mono.want_at (c := true) rfl rfl (Mono.dep_at hdu (i := 6) (d := 57) rfl rfl rfl) rfl) ?_
      have z65 : a.eval (.tmp 65) = .pointer (some ⟨S, 0, none⟩) := Mono.dep_at hdu (i := 14) (d := 65) rfl rfl rfl
      simp [Act.eval] at z65
      exact Mono.ok_val (.pointer (some ⟨S, 2, none⟩)) (by simp [execOp, z65, go_sem, c1, cc, df0, df1, dt0, b9, la', lb', lq']) rfl
    · intro a u hbu hsu hdu
      have c1 := (hbu.cell (p := ⟨S, 1, none⟩) lS).trans c1; have cc := (hbu.cell (p := ⟨S, 2 + fa * 16 + ta * 2 + pa, none⟩) lS).trans cc; have df0 := (hbu.cell (p := ⟨w.heap.size, 0, none⟩) lf).trans cf0; have df1 := (hbu.cell (p := ⟨w.heap.size, 1, none⟩) lf).trans cf1; have dt0 := (hbu.cell (p := ⟨w1.heap.size, 0, none⟩) lt).trans ct0
      refine Mono.if_want (Mono.want_at (c := true) rfl rfl (Mono.dep_at hdu (i := 6) (d := 57) rfl rfl rfl) rfl) ?_
      have z66 : a.eval (.tmp 66) = .pointer (some ⟨S, 2, none⟩) := Mono.dep_at hdu (i := 15) (d := 66) rfl rfl rfl
      simp [Act.eval] at z66
      have z60 : a.eval (.tmp 60) = .int .i64 fa := Mono.dep_at hdu (i := 9) (d := 60) rfl rfl rfl
      simp [Act.eval] at z60
      exact Mono.ok_val (.pointer (some ⟨S, 2 + fa * 16, none⟩)) (by simp [execOp, z66, z60, go_sem, c1, cc, df0, df1, dt0, b9, la', lb', lq']) rfl
    · intro a u hbu hsu hdu
      have c1 := (hbu.cell (p := ⟨S, 1, none⟩) lS).trans c1; have cc := (hbu.cell (p := ⟨S, 2 + fa * 16 + ta * 2 + pa, none⟩) lS).trans cc; have df0 := (hbu.cell (p := ⟨w.heap.size, 0, none⟩) lf).trans cf0; have df1 := (hbu.cell (p := ⟨w.heap.size, 1, none⟩) lf).trans cf1; have dt0 := (hbu.cell (p := ⟨w1.heap.size, 0, none⟩) lt).trans ct0
      refine Mono.if_want (Mono.want_at (c := true) rfl rfl (Mono.dep_at hdu (i := 6) (d := 57) rfl rfl rfl) rfl) ?_
      have z67 : a.eval (.tmp 67) = .pointer (some ⟨S, 2 + fa * 16, none⟩) := Mono.dep_at hdu (i := 16) (d := 67) rfl rfl rfl
      simp [Act.eval] at z67
      have z62 : a.eval (.tmp 62) = .int .i64 ta := Mono.dep_at hdu (i := 11) (d := 62) rfl rfl rfl
      simp [Act.eval] at z62
      exact Mono.ok_val (.pointer (some ⟨S, 2 + fa * 16 + ta * 2, none⟩)) (by simp [execOp, z67, z62, go_sem, c1, cc, df0, df1, dt0, b9, la', lb', lq']) rfl
    · intro a u hbu hsu hdu
      have c1 := (hbu.cell (p := ⟨S, 1, none⟩) lS).trans c1; have cc := (hbu.cell (p := ⟨S, 2 + fa * 16 + ta * 2 + pa, none⟩) lS).trans cc; have df0 := (hbu.cell (p := ⟨w.heap.size, 0, none⟩) lf).trans cf0; have df1 := (hbu.cell (p := ⟨w.heap.size, 1, none⟩) lf).trans cf1; have dt0 := (hbu.cell (p := ⟨w1.heap.size, 0, none⟩) lt).trans ct0
      refine Mono.if_want (Mono.want_at (c := true) rfl rfl (Mono.dep_at hdu (i := 6) (d := 57) rfl rfl rfl) rfl) ?_
      have z68 : a.eval (.tmp 68) = .pointer (some ⟨S, 2 + fa * 16 + ta * 2, none⟩) := Mono.dep_at hdu (i := 17) (d := 68) rfl rfl rfl
      simp [Act.eval] at z68
      have z64 : a.eval (.tmp 64) = .int .i64 pa := Mono.dep_at hdu (i := 13) (d := 64) rfl rfl rfl
      simp [Act.eval] at z64
      exact Mono.ok_val (.pointer (some ⟨S, 2 + fa * 16 + ta * 2 + pa, none⟩)) (by simp [execOp, z68, z64, go_sem, c1, cc, df0, df1, dt0, b9, la', lb', lq']) rfl
    · intro a u hbu hsu hdu
      have c1 := (hbu.cell (p := ⟨S, 1, none⟩) lS).trans c1; have cc := (hbu.cell (p := ⟨S, 2 + fa * 16 + ta * 2 + pa, none⟩) lS).trans cc; have df0 := (hbu.cell (p := ⟨w.heap.size, 0, none⟩) lf).trans cf0; have df1 := (hbu.cell (p := ⟨w.heap.size, 1, none⟩) lf).trans cf1; have dt0 := (hbu.cell (p := ⟨w1.heap.size, 0, none⟩) lt).trans ct0
      refine Mono.if_want (Mono.want_at (c := true) rfl rfl (Mono.dep_at hdu (i := 6) (d := 57) rfl rfl rfl) rfl) ?_
      have z69 : a.eval (.tmp 69) = .pointer (some ⟨S, 2 + fa * 16 + ta * 2 + pa, none⟩) := Mono.dep_at hdu (i := 18) (d := 69) rfl rfl rfl
      simp [Act.eval] at z69
      exact Mono.ok_val (.bool false) (by simp [execOp, z69, go_sem, c1, cc, df0, df1, dt0, b9, la', lb', lq']) rfl
    · intro a u hbu hsu hdu
      have c1 := (hbu.cell (p := ⟨S, 1, none⟩) lS).trans c1; have cc := (hbu.cell (p := ⟨S, 2 + fa * 16 + ta * 2 + pa, none⟩) lS).trans cc; have df0 := (hbu.cell (p := ⟨w.heap.size, 0, none⟩) lf).trans cf0; have df1 := (hbu.cell (p := ⟨w.heap.size, 1, none⟩) lf).trans cf1; have dt0 := (hbu.cell (p := ⟨w1.heap.size, 0, none⟩) lt).trans ct0
      refine Mono.if_want (Mono.want_at (c := true) rfl rfl (Mono.dep_at hdu (i := 6) (d := 57) rfl rfl rfl) rfl) ?_
      have z70 : a.eval (.tmp 70) = .bool false := Mono.dep_at hdu (i := 19) (d := 70) rfl rfl rfl
      simp [Act.eval] at z70
      exact Mono.ok_val (.bool true) (by simp [execOp, z70, go_sem, c1, cc, df0, df1, dt0, b9, la', lb', lq']) rfl
    · intro a u hbu hsu hdu
      have c1 := (hbu.cell (p := ⟨S, 1, none⟩) lS).trans c1; have cc := (hbu.cell (p := ⟨S, 2 + fa * 16 + ta * 2 + pa, none⟩) lS).trans cc; have df0 := (hbu.cell (p := ⟨w.heap.size, 0, none⟩) lf).trans cf0; have df1 := (hbu.cell (p := ⟨w.heap.size, 1, none⟩) lf).trans cf1; have dt0 := (hbu.cell (p := ⟨w1.heap.size, 0, none⟩) lt).trans ct0
      refine Mono.if_want rfl ?_
      have z57 : a.eval (.tmp 57) = .bool true := Mono.dep_at hdu (i := 6) (d := 57) rfl rfl rfl
      simp [Act.eval] at z57
      have z71 : a.eval (.tmp 71) = .bool true := Mono.dep_at hdu (i := 20) (d := 71) rfl rfl rfl
      simp [Act.eval] at z71
      exact Mono.ok_val (.bool true) (by simp [execOp, z57, z71, go_sem, c1, cc, df0, df1, dt0, b9, la', lb', lq']) rfl
  intro u hu
  simp only [Mono.Fin]
  rintro _ rfl _ rfl _ rfl _ rfl _ rfl _ rfl _ rfl _ rfl _ rfl _ rfl _ rfl _ rfl _ rfl _ rfl _ rfl _ rfl _ rfl _ rfl _ rfl _ rfl _ rfl _ rfl
  simp [Act.put]
  have hb5 := hu
  go_upto_region 6 with fail
  obtain ⟨w5, rfl⟩ : ∃ w5, w5 = u := ⟨_, rfl⟩
  have hu5 := hu2.trans (hb5.mono hu2.size)
  have hS5 := hS2.ext hb5
  have lS := hS5.lt
  have HO5 := Lib.hid (H.out.list.below hu5)
  clear c1 cc
  have c1 := hS5.cell 1
  rw [H.out.h1] at c1
  refine MonoA.wp_region_A [0] 11 84 [some 73, some 74, some 75, some 76, some 77, some 78, some 79, some 80, some 81, some 82, some 83, some 84, some 85, some 86, none] [.val (.pointer (some ⟨S, 0, none⟩)), .val (.pointer (some ⟨S, 0, none⟩)), .val (.pointer (some ⟨S, 0, none⟩)), .val (.pointer (some ⟨S, 1, none⟩)), .val (.slice pl m cl), .val (.agg #[.int .i64 fa, .int .i64 pa]), .val (.agg #[.int .i64 ta, .int .i64 tp]), .val (.slice p n c), .val (.agg (rowF ⟨fa, pa, ta, tp, xs, false⟩ (.slice p n c)).toArray), .prp (frameP w5.heap.size ⟨fa, pa, ta, tp, xs, false⟩), .prp (sliceP w5.heap.size ⟨fa, pa, ta, tp, xs, false⟩), .prp (Mono.anyV), .val (.pointer (some ⟨S, 0, none⟩)), .val (.pointer (some ⟨S, 1, none⟩)), .prp (Mono.anyV)] (Mid X w5 S 49 ds (.slice pl m cl) zs ⟨fa, pa, ta, tp, xs, false⟩) (Fin X w5 S 49 ds (.slice pl m cl) zs ⟨fa, pa, ta, tp, xs, false⟩) (by kernel_rfl) (by kernel_rfl) (by kernel_rfl) (of_decide_eq_true (by kernel_rfl)) rfl rfl rfl rfl (by kernel_rfl) (by kernel_rfl) _ _ rfl rfl ?_ ?_ ?_ ?_ ?_
  · simp only [MonoA.HeadGoals, List.take_succ_cons, List.take_zero, and_true]
    refine ⟨?_, ?_, ?_, ?_, ?_, ?_, ?_, ?_, ?_, ?_, ?_⟩
    · rw [if_pos (by decide)]
      intro a u hsu hdu
      have z0 : a.eval (.tmp 0) = _ := hsu 0 (by decide)
      simp [Act.eval] at z0
      exact ⟨_, rfl, MonoA.float_val (by simp [execOp, z0, go_sem])⟩
    · rw [if_neg (by decide)]
      intro a u hbu hsu hdu
      have c1 := (hbu.cell (p := ⟨S, 1, none⟩) lS).trans c1
      exact Mono.ok_move (.tmp 0) rfl (hsu 0 (by decide))
    · rw [if_neg (by decide)]
      intro a u hbu hsu hdu
      have c1 := (hbu.cell (p := ⟨S, 1, none⟩) lS).trans c1
      have z74 : a.eval (.tmp 74) = .pointer (some ⟨S, 0, none⟩) := Mono.dep_at hdu (i := 1) (d := 74) rfl rfl rfl
      simp [Act.eval] at z74
      exact Mono.ok_val (.pointer (some ⟨S, 0, none⟩)) (by simp [execOp, z74, go_sem, c1]) rfl
    · rw [if_neg (by decide)]
      intro a u hbu hsu hdu
      have c1 := (hbu.cell (p := ⟨S, 1, none⟩) lS).trans c1
      have z75 : a.eval (.tmp 75) = .pointer (some ⟨S, 0, none⟩) := Mono.dep_at hdu (i := 2) (d := 75) rfl rfl rfl
      simp [Act.eval] at z75
      exact Mono.ok_val (.pointer (some ⟨S, 1, none⟩)) (by simp [execOp, z75, go_sem, c1]) rfl
    · rw [if_neg (by decide)]
      intro a u hbu hsu hdu
      have c1 := (hbu.cell (p := ⟨S, 1, none⟩) lS).trans c1
      have z76 : a.eval (.tmp 76) = .pointer (some ⟨S, 1, none⟩) := Mono.dep_at hdu (i := 3) (d := 76) rfl rfl rfl
      simp [Act.eval] at z76
      exact Mono.ok_val (.slice pl m cl) (by simp [execOp, z76, go_sem, c1]) rfl
    · rw [if_neg (by decide)]
      intro a u hbu hsu hdu
      have c1 := (hbu.cell (p := ⟨S, 1, none⟩) lS).trans c1
      exact Mono.ok_load 30 (.tmp 5) rfl _ _ (hsu 5 (by decide)) (run_addr (hatf.ext (hb5.trans (hbu.mono hb5.size)))) rfl
    · rw [if_neg (by decide)]
      intro a u hbu hsu hdu
      have c1 := (hbu.cell (p := ⟨S, 1, none⟩) lS).trans c1
      exact Mono.ok_load 30 (.tmp 6) rfl _ _ (hsu 6 (by decide)) (run_addr (hat2.ext (hb5.trans (hbu.mono hb5.size)))) rfl
    · rw [if_neg (by decide)]
      intro a u hbu hsu hdu
      have c1 := (hbu.cell (p := ⟨S, 1, none⟩) lS).trans c1
      exact Mono.ok_move (.tmp 3) rfl (hsu 3 (by decide))
    · rw [if_neg (by decide)]
      intro a u hbu hsu hdu
      have c1 := (hbu.cell (p := ⟨S, 1, none⟩) lS).trans c1
      have z78 : a.eval (.tmp 78) = .agg #[.int .i64 fa, .int .i64 pa] := Mono.dep_at hdu (i := 5) (d := 78) rfl rfl rfl
      simp [Act.eval] at z78
      have z79 : a.eval (.tmp 79) = .agg #[.int .i64 ta, .int .i64 tp] := Mono.dep_at hdu (i := 6) (d := 79) rfl rfl rfl
      simp [Act.eval] at z79
      have z80 : a.eval (.tmp 80) = .slice p n c := Mono.dep_at hdu (i := 7) (d := 80) rfl rfl rfl
      simp [Act.eval] at z80
      exact Mono.ok_build 35 _ rfl #[(0, .agg #[.int .i64 fa, .int .i64 pa]), (1, .agg #[.int .i64 ta, .int .i64 tp]), (2, .slice p n c)] (by simp [z78, z79, z80, Act.eval]) (.agg (rowF ⟨fa, pa, ta, tp, xs, false⟩ (.slice p n c)).toArray) (by kernel_rfl) rfl
    · rw [if_neg (by decide)]
      intro a u hbu hsu hdu
      have c1 := (hbu.cell (p := ⟨S, 1, none⟩) lS).trans c1
      have z81 : a.eval (.tmp 81) = .agg (rowF ⟨fa, pa, ta, tp, xs, false⟩ (.slice p n c)).toArray := Mono.dep_at hdu (i := 8) (d := 81) rfl rfl rfl
      simp [Act.eval] at z81
      exact Mono.ok_call 37 _ _ rfl #[.agg (rowF ⟨fa, pa, ta, tp, xs, false⟩ (.slice p n c)).toArray] (by simp [execOp, z81, go_sem]) ((PC.out fa pa ta tp u (hu5.trans (hbu.mono hu5.size))).mono (fun e x ⟨d, h1, h2, h3⟩ => ⟨_, h1, h3, d, rfl, h2.mono hbu.size⟩))
    · rw [if_neg (by decide)]
      intro a u hbu hsu hdu
      have c1 := (hbu.cell (p := ⟨S, 1, none⟩) lS).trans c1
      obtain ⟨d1, e1, hd1⟩ : (frameP w5.heap.size ⟨fa, pa, ta, tp, xs, false⟩).R (a.eval (.tmp 82)) u := Mono.dep_at hdu (i := 9) (d := 82) rfl rfl rfl
      have hbz := (Below.refl u.heap.size u).alloc (Nat.le_refl _) (.cells (rowF ⟨fa, pa, ta, tp, xs, false⟩ d1).toArray 35)
      exact Mem.wp_build 44 1 (.tmp 82) rfl _ _ _ e1 (buildF ⟨fa, pa, ta, tp, xs, false⟩ d1 u) ⟨_, rfl, hbz, _, d1, rfl, At.new u 35 _, hd1.below hbz⟩
  · intro a u hbu hsu hdu
    have c1 := (hbu.cell (p := ⟨S, 1, none⟩) lS).trans c1
    have z77 : a.eval (.tmp 77) = .slice pl m cl := Mono.dep_at hdu (i := 4) (d := 77) rfl rfl rfl
    obtain ⟨g0, d0, e0, hat0, hr0⟩ : (sliceP w5.heap.size ⟨fa, pa, ta, tp, xs, false⟩).R (a.eval (.tmp 83)) u := Mono.dep_at hdu (i := 10) (d := 83) rfl rfl rfl
    obtain ⟨v0, x0, hrun0, hm0⟩ := mid_append _ HO5.out hS5 (by decide) hbu hat0 hr0 HZ
    exact wp_appendV 44 (.tmp 77) (.tmp 83) rfl _ _ _ _ z77 e0 hrun0 ⟨_, rfl, hm0⟩
  · simp only [MonoA.FloatGoals, List.drop_succ_cons, List.drop_zero, List.dropLast_cons_cons, List.dropLast_singleton, and_true]
    refine ⟨?_, ?_⟩
    · intro a u hsu hdu
      have z73 : a.eval (.tmp 73) = .pointer (some ⟨S, 0, none⟩) := Mono.dep_at hdu (i := 0) (d := 73) rfl rfl rfl
      simp [Act.eval] at z73
      exact ⟨_, rfl, MonoA.float_val (by simp [execOp, z73, go_sem])⟩
    · intro a u hsu hdu
      have z85 : a.eval (.tmp 85) = .pointer (some ⟨S, 0, none⟩) := Mono.dep_at hdu (i := 12) (d := 85) rfl rfl rfl
      simp [Act.eval] at z85
      exact ⟨_, rfl, MonoA.float_val (by simp [execOp, z85, go_sem])⟩
  · intro a u v hmid hv hsu hdu
    have zp : a.eval (.tmp 86) = .pointer (some ⟨S, 1, none⟩) := Mono.dep_at hdu (i := 13) (d := 86) rfl rfl rfl
    exact wp_storeC 44 (.tmp 86) (.tmp 84) rfl rfl S 1 49 _ _ v zp hv hmid.row (by rw [HDS.out]; decide) (by kernel_rfl) hmid.one rfl (fun y hat hg => ⟨undef, rfl, fin_store hmid hg hat⟩)
  intro v x hfin us
  obtain ⟨hn, hbx⟩ := Fin.rnet (H.out.below hu5) hfin HNO.out HFO.out
  have hN := hn.mono (more_since hu5.size)
  have hB := (ButX.ofBelow (X := X) hu5).trans (hbx.mono more_self)
  clear hfin hn hbx
  simp [Act.put, MonoU.pick]
  go_wp2_with fail
  go_ret
  exact ⟨rfl, hN, hB⟩
end Go.Proofs.Ytmdhpjbahenbhaa.Net
