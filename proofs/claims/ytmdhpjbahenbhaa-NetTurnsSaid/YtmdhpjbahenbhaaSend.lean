/-
  Contract: Send.
-/
import Derived.Test.YtmdhpjbahenbhaaNet4
import Derived.Deep.Cut
namespace Go.Proofs.Ytmdhpjbahenbhaa.Net
open Go.RowKit Mem Cells Ops Go.Maps
set_option linter.unusedVariables false
set_option linter.unusedSimpArgs false

set_option maxRecDepth 100000 in
set_option maxHeartbeats 800000 in
theorem SendNil (fh fp th tp : Int) (v : Value) (w : World) : Calls Try.prog 12 #[.pointer none, .agg #[.int .i64 fh, .int .i64 fp], .agg #[.int .i64 th, .int .i64 tp], v] w fun e w' => e = .returned (.int .i64 1) ∧ Below w.heap.size w w' := by
  go_enter Try.func12, Try.ntmps12
  go_wp2_with (first
    | ((with_reducible refine wpl_boxAt rfl 30 (.tmp 1) rfl #[.int .i64 fh, .int .i64 fp] ?_ ?_); rfl; go_must (intro w1 hat1 hb1 hs1; have HS1 := Lib.hid hs1))
    | ((with_reducible refine wpl_boxAt rfl 30 (.tmp 2) rfl #[.int .i64 th, .int .i64 tp] ?_ ?_); rfl; go_must (intro w2 hat2 hb2 hs2; clear hs2; have hatf := hat1.ext hb2; have hu2 := hb1.trans (hb2.mono hb1.size); clear hat1 hb2 hs1; have cf0 := hatf.cell 0; have ct0 := hat2.cell 0; simp at cf0 ct0))
    | (go_at_call 21; go_must (refine (hostNil _ _).mono ?_; rintro e w3 ⟨rfl, hb3⟩; have hz := (Below.refl w2.heap.size w2).alloc (Nat.le_refl _) (.cells #[.int .i64 fh, .int .i64 th] 3); have hu3 := (hu2.trans (hz.mono hu2.size)).trans (hb3.mono (hu2.trans (hz.mono hu2.size)).size))))
  go_ret
  exact ⟨rfl, hu3⟩
set_option maxRecDepth 100000 in
set_option maxHeartbeats 1600000 in
/-- What is asked wrongly. -/
theorem SendBad (hosts fh fp th tp : Int) (v1 v2 : Value) (S : Nat) (v : Value) (w : World) (hS : At w S 61 #[.int .i64 hosts, v1, v2]) (hbad : sendArg hosts fh fp th tp = false) :
    Calls Try.prog 12 #[.pointer (some ⟨S, 0, none⟩), .agg #[.int .i64 fh, .int .i64 fp], .agg #[.int .i64 th, .int .i64 tp], v] w fun e w' => e = .returned (.int .i64 1) ∧ Below w.heap.size w w' := by
  have PH := Lib.hid (fun L u (hu : Below w.heap.size w u) h => host fh th hosts v1 v2 S L u (hS.ext hu) h)
  obtain ⟨h, hh⟩ : ∃ h, (hostB hosts fh && hostB hosts th) = h := ⟨_, rfl⟩
  unfold sendArg at hbad
  rw [hh] at hbad PH
  clear hh hS
  have hcase : h = false ∨ (h = true ∧ pathB fp = false) ∨ (h = true ∧ pathB fp = true ∧ pathB tp = false) ∨ (h = true ∧ pathB fp = true ∧ pathB tp = true ∧ (fh == th) = true) := by
    revert hbad
    by_cases hc : fh = th <;> cases h <;> cases pathB fp <;> cases pathB tp <;> simp [hc]
  clear hbad
  rcases hcase with rfl | ⟨rfl, h1⟩ | ⟨rfl, h1, h2⟩ | ⟨rfl, h1, h2, h3⟩
  all_goals
    go_enter Try.func12, Try.ntmps12
    go_wp2_with (first
      | ((with_reducible refine wpl_boxAt rfl 30 (.tmp 1) rfl #[.int .i64 fh, .int .i64 fp] ?_ ?_); rfl; go_must (intro w1 hat1 hb1 hs1; have HS1 := Lib.hid hs1))
      | ((with_reducible refine wpl_boxAt rfl 30 (.tmp 2) rfl #[.int .i64 th, .int .i64 tp] ?_ ?_); rfl; go_must (intro w2 hat2 hb2 hs2; clear hs2; have hatf := hat1.ext hb2; have hu2 := hb1.trans (hb2.mono hb1.size); clear hat1 hb2 hs1; have cf0 := hatf.cell 0; have ct0 := hat2.cell 0; simp at cf0 ct0))
      | (go_at_call 21; go_must (have hz := (Below.refl w2.heap.size w2).alloc (Nat.le_refl _) (.cells #[.int .i64 fh, .int .i64 th] 3); have huz := hu2.trans (hz.mono hu2.size); refine (PH.out _ _ huz (At.new w2 3 _)).mono ?_; clear hz; rintro e w3 ⟨rfl, hb3⟩; have hz := (Below.refl w2.heap.size w2).alloc (Nat.le_refl _) (.cells #[.int .i64 fh, .int .i64 th] 3); have hu3 := huz.trans (hb3.mono huz.size); have hatf3 := (hatf.ext hz).ext hb3; have hatt3 := (hat2.ext hz).ext hb3; have df0 := hatf3.cell 0; have df1 := hatf3.cell 1; have dt0 := hatt3.cell 0; have dt1 := hatt3.cell 1; simp at df0 df1 dt0 dt1; clear hz cf0 ct0))
      | (go_at_call 22; go_must (refine (path _ _).mono ?_; rintro e w4 ⟨rfl, rfl⟩)))
    go_ret
    exact ⟨rfl, hu3⟩
theorem sendArg_iff (hosts fh fp th tp : Int) (h8 : hosts ≤ 8) (h : sendArg hosts fh fp th tp = true) : (hostB hosts fh && hostB hosts th) = true ∧ pathB fp = true ∧ pathB tp = true ∧ (fh == th) = false ∧ i64 fh ∧ i64 fp ∧ i64 th := by
  unfold sendArg at h
  simp only [Bool.and_eq_true, Bool.not_eq_true', decide_eq_false_iff_not] at h
  obtain ⟨⟨⟨⟨h1, h2⟩, h3⟩, h4⟩, h5⟩ := h
  refine ⟨by rw [h1, h2]; rfl, h3, h4, by simpa using h5, ?_⟩
  unfold hostB at h1 h2
  unfold pathB at h3
  simp only [decide_eq_true_eq] at h1 h2 h3
  exact ⟨⟨by omega, by omega⟩, ⟨by omega, by omega⟩, ⟨by omega, by omega⟩⟩
set_option maxRecDepth 100000 in
set_option maxHeartbeats 1600000 in
/-- What is too long. -/
theorem SendLarge (hosts fh fp th tp : Int) (v1 v2 : Value) (S : Nat) (p : Option Addr) (m c : Nat) (w : World) (hS : At w S 61 #[.int .i64 hosts, v1, v2]) (h8 : hosts ≤ 8) (hok : sendArg hosts fh fp th tp = true) (hm : 4096 < m) (hm63 : m ≤ 9223372036854775807) :
    Calls Try.prog 12 #[.pointer (some ⟨S, 0, none⟩), .agg #[.int .i64 fh, .int .i64 fp], .agg #[.int .i64 th, .int .i64 tp], .slice p m c] w fun e w' => e = .returned (.int .i64 4) ∧ Below w.heap.size w w' := by
  have PH := Lib.hid (fun L u (hu : Below w.heap.size w u) h => host fh th hosts v1 v2 S L u (hS.ext hu) h)
  obtain ⟨hh, h1, h2, h3, _⟩ := sendArg_iff _ _ _ _ _ h8 hok
  rw [hh] at PH
  clear hh hS hok h8
  go_enter Try.func12, Try.ntmps12
  go_wp2_with (first
    | ((with_reducible refine wpl_boxAt rfl 30 (.tmp 1) rfl #[.int .i64 fh, .int .i64 fp] ?_ ?_); rfl; go_must (intro w1 hat1 hb1 hs1; have HS1 := Lib.hid hs1))
    | ((with_reducible refine wpl_boxAt rfl 30 (.tmp 2) rfl #[.int .i64 th, .int .i64 tp] ?_ ?_); rfl; go_must (intro w2 hat2 hb2 hs2; clear hs2; have hatf := hat1.ext hb2; have hu2 := hb1.trans (hb2.mono hb1.size); clear hat1 hb2 hs1; have cf0 := hatf.cell 0; have ct0 := hat2.cell 0; simp at cf0 ct0))
    | (go_at_call 21; go_must (have hz := (Below.refl w2.heap.size w2).alloc (Nat.le_refl _) (.cells #[.int .i64 fh, .int .i64 th] 3); have huz := hu2.trans (hz.mono hu2.size); refine (PH.out _ _ huz (At.new w2 3 _)).mono ?_; clear hz; rintro e w3 ⟨rfl, hb3⟩; have hz := (Below.refl w2.heap.size w2).alloc (Nat.le_refl _) (.cells #[.int .i64 fh, .int .i64 th] 3); have hu3 := huz.trans (hb3.mono huz.size); have hatf3 := (hatf.ext hz).ext hb3; have hatt3 := (hat2.ext hz).ext hb3; have df0 := hatf3.cell 0; have df1 := hatf3.cell 1; have dt0 := hatt3.cell 0; have dt1 := hatt3.cell 1; simp at df0 df1 dt0 dt1; clear hz cf0 ct0))
    | (go_at_call 22; go_must (refine (path _ _).mono ?_; rintro e w4 ⟨rfl, rfl⟩)))
  go_ret
  exact ⟨rfl, hu3⟩
set_option maxRecDepth 100000 in
set_option maxHeartbeats 1600000 in
/-- What is lost: there is no room. -/
theorem SendLost1 {X : Nat → Prop} {w : World} {S : Nat} {hosts : Int} {fs : List F} {cut : Int → Int → Int → Bool} {n : Nat} (h : Net X w S hosts fs cut n) (fh fp th tp : Int) (p : Option Addr) (q c : Nat) (hok : sendArg hosts fh fp th tp = true) (hq : q ≤ 4096) (hno : ¬ fs.length < 1024) :
    Calls Try.prog 12 #[.pointer (some ⟨S, 0, none⟩), .agg #[.int .i64 fh, .int .i64 fp], .agg #[.int .i64 th, .int .i64 tp], .slice p q c] w fun e w' => e = .returned (.int .i64 0) ∧ Below w.heap.size w w' := by
  obtain ⟨zs, pl, m, cl, b, D, h⟩ := h
  obtain ⟨hh, h1, h2, h3, i1, i2, i3⟩ := sendArg_iff _ _ _ _ _ h.hosts.2 hok
  have PH := Lib.hid (fun L u (hu : Below w.heap.size w u) h' => host fh th hosts (.slice pl m cl) (.map (some b)) S L u (h.row.ext hu) h')
  rw [hh] at PH
  have HR := Lib.hid h.row
  have HML : m ≤ 1024 := by have := h.ok.1; rwa [h.flen] at this
  have HM := Lib.hid (fun u (hu : Below w.heap.size w u) => run_lookupB (P := Try.prog) (w := u) 59 65 4 keyed65 Try.underlying59 Try.underlying4 (by kernel_rfl) b n D (h.map.kept (grown_below none hu) (by simp)) _ _ (keyOf65 fh th fp i1 i3 i2) (cut fh th fp) (h.says.2 fh th fp i1 i3 i2))
  have b9 : decide ((m : Int) < 1024) = false := decide_eq_false (by have := h.flen; omega)
  clear hh hok h i1 i2 i3
  clear hno
  go_enter Try.func12, Try.ntmps12
  go_upto_region 5 with (first
    | ((with_reducible refine wpl_boxAt rfl 30 (.tmp 1) rfl #[.int .i64 fh, .int .i64 fp] ?_ ?_); rfl; go_must (intro w1 hat1 hb1 hs1; have HS1 := Lib.hid hs1))
    | ((with_reducible refine wpl_boxAt rfl 30 (.tmp 2) rfl #[.int .i64 th, .int .i64 tp] ?_ ?_); rfl; go_must (intro w2 hat2 hb2 hs2; clear hs2; have hatf := hat1.ext hb2; have hu2 := hb1.trans (hb2.mono hb1.size); clear hat1 hb2 hs1; have cf0 := hatf.cell 0; have ct0 := hat2.cell 0; simp at cf0 ct0))
    | (go_at_call 21; go_must (have hz := (Below.refl w2.heap.size w2).alloc (Nat.le_refl _) (.cells #[.int .i64 fh, .int .i64 th] 3); have huz := hu2.trans (hz.mono hu2.size); refine (PH.out _ _ huz (At.new w2 3 _)).mono ?_; clear hz; rintro e w3 ⟨rfl, hb3⟩; have hz := (Below.refl w2.heap.size w2).alloc (Nat.le_refl _) (.cells #[.int .i64 fh, .int .i64 th] 3); have hu3 := huz.trans (hb3.mono huz.size); have hatf3 := (hatf.ext hz).ext hb3; have hatt3 := (hat2.ext hz).ext hb3; have df0 := hatf3.cell 0; have df1 := hatf3.cell 1; have dt0 := hatt3.cell 0; have dt1 := hatt3.cell 1; simp at df0 df1 dt0 dt1; clear hz cf0 ct0))
    | (go_at_call 22; go_must (refine (path _ _).mono ?_; rintro e w4 ⟨rfl, rfl⟩)))
  have hS4 := HR.out.ext hu3
  have lS := hS4.lt
  have lf := hatf3.lt
  have lt := hatt3.lt
  have c1 := hS4.cell 1
  have c2 := hS4.cell 2
  simp at c1 c2
  refine Mono.wp_region_mono [some 41, some 42, some 43, some 44, some 45, some 46, some 47, some 48, some 49, some 50, some 51, some 52, some 53, some 54, some 55, some 56, some 57, some 58, some 59, some 60, some 61] [Mono.isV (.pointer (some ⟨S, 0, none⟩)), Mono.isV (.pointer (some ⟨S, 0, none⟩)), Mono.isV (.pointer (some ⟨S, 1, none⟩)), Mono.isV (.slice pl m cl), Mono.isV (.int .i64 m), Mono.isV (.bool false), Mono.isV (.bool false), Mono.isV (undef), Mono.isV (undef), Mono.isV (undef), Mono.isV (undef), Mono.isV (undef), Mono.isV (undef), Mono.isV (undef), Mono.isV (undef), Mono.isV (undef), Mono.isV (undef), Mono.isV (undef), Mono.isV (undef), Mono.isV (undef), Mono.isV (.bool false)] (by kernel_rfl) (by kernel_rfl) ?_ ?_
  · simp only [Mono.OpGoals, and_true]
    refine ⟨?_, ?_, ?_, ?_, ?_, ?_, ?_, ?_, ?_, ?_, ?_, ?_, ?_, ?_, ?_, ?_, ?_, ?_, ?_, ?_, ?_⟩
    · intro a u hbu hsu hdu
      have c1 := (hbu.cell (p := ⟨S, 1, none⟩) lS).trans c1; have c2 := (hbu.cell (p := ⟨S, 2, none⟩) lS).trans c2; have df0 := (hbu.cell (p := ⟨w.heap.size, 0, none⟩) lf).trans df0; have df1 := (hbu.cell (p := ⟨w.heap.size, 1, none⟩) lf).trans df1; have dt0 := (hbu.cell (p := ⟨w1.heap.size, 0, none⟩) lt).trans dt0
      refine Mono.if_want rfl ?_
      exact Mono.ok_move (.tmp 0) rfl (hsu 0 (by decide))
    · intro a u hbu hsu hdu
      have c1 := (hbu.cell (p := ⟨S, 1, none⟩) lS).trans c1; have c2 := (hbu.cell (p := ⟨S, 2, none⟩) lS).trans c2; have df0 := (hbu.cell (p := ⟨w.heap.size, 0, none⟩) lf).trans df0; have df1 := (hbu.cell (p := ⟨w.heap.size, 1, none⟩) lf).trans df1; have dt0 := (hbu.cell (p := ⟨w1.heap.size, 0, none⟩) lt).trans dt0
      refine Mono.if_want rfl ?_
      have z41 : a.eval (.tmp 41) = .pointer (some ⟨S, 0, none⟩) := Mono.dep_at hdu (i := 0) (d := 41) rfl rfl rfl
      simp [Act.eval] at z41
      exact Mono.ok_val (.pointer (some ⟨S, 0, none⟩)) (by simp [execOp, z41, go_sem, c1, c2, df0, df1, dt0, b9]) rfl
    · intro a u hbu hsu hdu
      have c1 := (hbu.cell (p := ⟨S, 1, none⟩) lS).trans c1; have c2 := (hbu.cell (p := ⟨S, 2, none⟩) lS).trans c2; have df0 := (hbu.cell (p := ⟨w.heap.size, 0, none⟩) lf).trans df0; have df1 := (hbu.cell (p := ⟨w.heap.size, 1, none⟩) lf).trans df1; have dt0 := (hbu.cell (p := ⟨w1.heap.size, 0, none⟩) lt).trans dt0
      refine Mono.if_want rfl ?_
      have z42 : a.eval (.tmp 42) = .pointer (some ⟨S, 0, none⟩) := Mono.dep_at hdu (i := 1) (d := 42) rfl rfl rfl
      simp [Act.eval] at z42
      exact Mono.ok_val (.pointer (some ⟨S, 1, none⟩)) (by simp [execOp, z42, go_sem, c1, c2, df0, df1, dt0, b9]) rfl
    · intro a u hbu hsu hdu
      have c1 := (hbu.cell (p := ⟨S, 1, none⟩) lS).trans c1; have c2 := (hbu.cell (p := ⟨S, 2, none⟩) lS).trans c2; have df0 := (hbu.cell (p := ⟨w.heap.size, 0, none⟩) lf).trans df0; have df1 := (hbu.cell (p := ⟨w.heap.size, 1, none⟩) lf).trans df1; have dt0 := (hbu.cell (p := ⟨w1.heap.size, 0, none⟩) lt).trans dt0
      refine Mono.if_want rfl ?_
      have z43 : a.eval (.tmp 43) = .pointer (some ⟨S, 1, none⟩) := Mono.dep_at hdu (i := 2) (d := 43) rfl rfl rfl
      simp [Act.eval] at z43
      exact Mono.ok_val (.slice pl m cl) (by simp [execOp, z43, go_sem, c1, c2, df0, df1, dt0, b9]) rfl
    · intro a u hbu hsu hdu
      have c1 := (hbu.cell (p := ⟨S, 1, none⟩) lS).trans c1; have c2 := (hbu.cell (p := ⟨S, 2, none⟩) lS).trans c2; have df0 := (hbu.cell (p := ⟨w.heap.size, 0, none⟩) lf).trans df0; have df1 := (hbu.cell (p := ⟨w.heap.size, 1, none⟩) lf).trans df1; have dt0 := (hbu.cell (p := ⟨w1.heap.size, 0, none⟩) lt).trans dt0
      refine Mono.if_want rfl ?_
      have z44 : a.eval (.tmp 44) = .slice pl m cl := Mono.dep_at hdu (i := 3) (d := 44) rfl rfl rfl
      simp [Act.eval] at z44
      exact Mono.ok_val (.int .i64 m) (by simp [execOp, z44, go_sem, c1, c2, df0, df1, dt0, b9]) rfl
    · intro a u hbu hsu hdu
      have c1 := (hbu.cell (p := ⟨S, 1, none⟩) lS).trans c1; have c2 := (hbu.cell (p := ⟨S, 2, none⟩) lS).trans c2; have df0 := (hbu.cell (p := ⟨w.heap.size, 0, none⟩) lf).trans df0; have df1 := (hbu.cell (p := ⟨w.heap.size, 1, none⟩) lf).trans df1; have dt0 := (hbu.cell (p := ⟨w1.heap.size, 0, none⟩) lt).trans dt0
      refine Mono.if_want rfl ?_
      have z45 : a.eval (.tmp 45) = .int .i64 m := Mono.dep_at hdu (i := 4) (d := 45) rfl rfl rfl
      simp [Act.eval] at z45
      exact Mono.ok_val (.bool false) (by simp [execOp, z45, go_sem, c1, c2, df0, df1, dt0, b9]) rfl
    · intro a u hbu hsu hdu
      have c1 := (hbu.cell (p := ⟨S, 1, none⟩) lS).trans c1; have c2 := (hbu.cell (p := ⟨S, 2, none⟩) lS).trans c2; have df0 := (hbu.cell (p := ⟨w.heap.size, 0, none⟩) lf).trans df0; have df1 := (hbu.cell (p := ⟨w.heap.size, 1, none⟩) lf).trans df1; have dt0 := (hbu.cell (p := ⟨w1.heap.size, 0, none⟩) lt).trans dt0
      refine Mono.if_want rfl ?_
      exact Mono.ok_move (.tmp 46) rfl (Mono.dep_at hdu (i := 5) (d := 46) rfl rfl rfl)
    · intro a u hbu hsu hdu
      have c1 := (hbu.cell (p := ⟨S, 1, none⟩) lS).trans c1; have c2 := (hbu.cell (p := ⟨S, 2, none⟩) lS).trans c2; have df0 := (hbu.cell (p := ⟨w.heap.size, 0, none⟩) lf).trans df0; have df1 := (hbu.cell (p := ⟨w.heap.size, 1, none⟩) lf).trans df1; have dt0 := (hbu.cell (p := ⟨w1.heap.size, 0, none⟩) lt).trans dt0
      refine Mono.if_no (Mono.want_no (c := false) rfl rfl (Mono.dep_at hdu (i := 6) (d := 47) rfl rfl rfl) rfl) ?_
      exact rfl
    · intro a u hbu hsu hdu
      have c1 := (hbu.cell (p := ⟨S, 1, none⟩) lS).trans c1; have c2 := (hbu.cell (p := ⟨S, 2, none⟩) lS).trans c2; have df0 := (hbu.cell (p := ⟨w.heap.size, 0, none⟩) lf).trans df0; have df1 := (hbu.cell (p := ⟨w.heap.size, 1, none⟩) lf).trans df1; have dt0 := (hbu.cell (p := ⟨w1.heap.size, 0, none⟩) lt).trans dt0
      refine Mono.if_no (Mono.want_no (c := false) rfl rfl (Mono.dep_at hdu (i := 6) (d := 47) rfl rfl rfl) rfl) ?_
      exact rfl
    · intro a u hbu hsu hdu
      have c1 := (hbu.cell (p := ⟨S, 1, none⟩) lS).trans c1; have c2 := (hbu.cell (p := ⟨S, 2, none⟩) lS).trans c2; have df0 := (hbu.cell (p := ⟨w.heap.size, 0, none⟩) lf).trans df0; have df1 := (hbu.cell (p := ⟨w.heap.size, 1, none⟩) lf).trans df1; have dt0 := (hbu.cell (p := ⟨w1.heap.size, 0, none⟩) lt).trans dt0
      refine Mono.if_no (Mono.want_no (c := false) rfl rfl (Mono.dep_at hdu (i := 6) (d := 47) rfl rfl rfl) rfl) ?_
      exact rfl
    · intro a u hbu hsu hdu
      have c1 := (hbu.cell (p := ⟨S, 1, none⟩) lS).trans c1; have c2 := (hbu.cell (p := ⟨S, 2, none⟩) lS).trans c2; have df0 := (hbu.cell (p := ⟨w.heap.size, 0, none⟩) lf).trans df0; have df1 := (hbu.cell (p := ⟨w.heap.size, 1, none⟩) lf).trans df1; have dt0 := (hbu.cell (p := ⟨w1.heap.size, 0, none⟩) lt).trans dt0
      refine Mono.if_no (Mono.want_no (c := false) rfl rfl (Mono.dep_at hdu (i := 6) (d := 47) rfl rfl rfl) rfl) ?_
      exact rfl
    · intro a u hbu hsu hdu
      have c1 := (hbu.cell (p := ⟨S, 1, none⟩) lS).trans c1; have c2 := (hbu.cell (p := ⟨S, 2, none⟩) lS).trans c2; have df0 := (hbu.cell (p := ⟨w.heap.size, 0, none⟩) lf).trans df0; have df1 := (hbu.cell (p := ⟨w.heap.size, 1, none⟩) lf).trans df1; have dt0 := (hbu.cell (p := ⟨w1.heap.size, 0, none⟩) lt).trans dt0
      refine Mono.if_no (Mono.want_no (c := false) rfl rfl (Mono.dep_at hdu (i := 6) (d := 47) rfl rfl rfl) rfl) ?_
      exact rfl
    · intro a u hbu hsu hdu
      have c1 := (hbu.cell (p := ⟨S, 1, none⟩) lS).trans c1; have c2 := (hbu.cell (p := ⟨S, 2, none⟩) lS).trans c2; have df0 := (hbu.cell (p := ⟨w.heap.size, 0, none⟩) lf).trans df0; have df1 := (hbu.cell (p := ⟨w.heap.size, 1, none⟩) lf).trans df1; have dt0 := (hbu.cell (p := ⟨w1.heap.size, 0, none⟩) lt).trans dt0
      refine Mono.if_no (Mono.want_no (c := false) rfl rfl (Mono.dep_at hdu (i := 6) (d := 47) rfl rfl rfl) rfl) ?_
      exact rfl
    · intro a u hbu hsu hdu
      have c1 := (hbu.cell (p := ⟨S, 1, none⟩) lS).trans c1; have c2 := (hbu.cell (p := ⟨S, 2, none⟩) lS).trans c2; have df0 := (hbu.cell (p := ⟨w.heap.size, 0, none⟩) lf).trans df0; have df1 := (hbu.cell (p := ⟨w.heap.size, 1, none⟩) lf).trans df1; have dt0 := (hbu.cell (p := ⟨w1.heap.size, 0, none⟩) lt).trans dt0
      refine Mono.if_no (Mono.want_no (c := false) rfl rfl (Mono.dep_at hdu (i := 6) (d := 47) rfl rfl rfl) rfl) ?_
      exact rfl
    · intro a u hbu hsu hdu
      have c1 := (hbu.cell (p := ⟨S, 1, none⟩) lS).trans c1; have c2 := (hbu.cell (p := ⟨S, 2, none⟩) lS).trans c2; have df0 := (hbu.cell (p := ⟨w.heap.size, 0, none⟩) lf).trans df0; have df1 := (hbu.cell (p := ⟨w.heap.size, 1, none⟩) lf).trans df1; have dt0 := (hbu.cell (p := ⟨w1.heap.size, 0, none⟩) lt).trans dt0
      refine Mono.if_no (Mono.want_no (c := false) rfl rfl (Mono.dep_at hdu (i := 6) (d := 47) rfl rfl rfl) rfl) ?_
      exact rfl
    · intro a u hbu hsu hdu
      have c1 := (hbu.cell (p := ⟨S, 1, none⟩) lS).trans c1; have c2 := (hbu.cell (p := ⟨S, 2, none⟩) lS).trans c2; have df0 := (hbu.cell (p := ⟨w.heap.size, 0, none⟩) lf).trans df0; have df1 := (hbu.cell (p := ⟨w.heap.size, 1, none⟩) lf).trans df1; have dt0 := (hbu.cell (p := ⟨w1.heap.size, 0, none⟩) lt).trans dt0
      refine Mono.if_no (Mono.want_no (c := false) rfl rfl (Mono.dep_at hdu (i := 6) (d := 47) rfl rfl rfl) rfl) ?_
      exact rfl
    · intro a u hbu hsu hdu
      have c1 := (hbu.cell (p := ⟨S, 1, none⟩) lS).trans c1; have c2 := (hbu.cell (p := ⟨S, 2, none⟩) lS).trans c2; have df0 := (hbu.cell (p := ⟨w.heap.size, 0, none⟩) lf).trans df0; have df1 := (hbu.cell (p := ⟨w.heap.size, 1, none⟩) lf).trans df1; have dt0 := (hbu.cell (p := ⟨w1.heap.size, 0, none⟩) lt).trans dt0
      refine Mono.if_no (Mono.want_no (c := false) rfl rfl (Mono.dep_at hdu (i := 6) (d := 47) rfl rfl rfl) rfl) ?_
      exact rfl
    · intro a u hbu hsu hdu
      have c1 := (hbu.cell (p := ⟨S, 1, none⟩) lS).trans c1; have c2 := (hbu.cell (p := ⟨S, 2, none⟩) lS).trans c2; have df0 := (hbu.cell (p := ⟨w.heap.size, 0, none⟩) lf).trans df0; have df1 := (hbu.cell (p := ⟨w.heap.size, 1, none⟩) lf).trans df1; have dt0 := (hbu.cell (p := ⟨w1.heap.size, 0, none⟩) lt).trans dt0
      refine Mono.if_no (Mono.want_no (c := false) rfl rfl (Mono.dep_at hdu (i := 6) (d := 47) rfl rfl rfl) rfl) ?_
      exact rfl
    · intro a u hbu hsu hdu
      have c1 := (hbu.cell (p := ⟨S, 1, none⟩) lS).trans c1; have c2 := (hbu.cell (p := ⟨S, 2, none⟩) lS).trans c2; have df0 := (hbu.cell (p := ⟨w.heap.size, 0, none⟩) lf).trans df0; have df1 := (hbu.cell (p := ⟨w.heap.size, 1, none⟩) lf).trans df1; have dt0 := (hbu.cell (p := ⟨w1.heap.size, 0, none⟩) lt).trans dt0
      refine Mono.if_no (Mono.want_no (c := false) rfl rfl (Mono.dep_at hdu (i := 6) (d := 47) rfl rfl rfl) rfl) ?_
      exact rfl
    · intro a u hbu hsu hdu
      have c1 := (hbu.cell (p := ⟨S, 1, none⟩) lS).trans c1; have c2 := (hbu.cell (p := ⟨S, 2, none⟩) lS).trans c2; have df0 := (hbu.cell (p := ⟨w.heap.size, 0, none⟩) lf).trans df0; have df1 := (hbu.cell (p := ⟨w.heap.size, 1, none⟩) lf).trans df1; have dt0 := (hbu.cell (p := ⟨w1.heap.size, 0, none⟩) lt).trans dt0
      refine Mono.if_no (Mono.want_no (c := false) rfl rfl (Mono.dep_at hdu (i := 6) (d := 47) rfl rfl rfl) rfl) ?_
      exact rfl
    · intro a u hbu hsu hdu
      have c1 := (hbu.cell (p := ⟨S, 1, none⟩) lS).trans c1; have c2 := (hbu.cell (p := ⟨S, 2, none⟩) lS).trans c2; have df0 := (hbu.cell (p := ⟨w.heap.size, 0, none⟩) lf).trans df0; have df1 := (hbu.cell (p := ⟨w.heap.size, 1, none⟩) lf).trans df1; have dt0 := (hbu.cell (p := ⟨w1.heap.size, 0, none⟩) lt).trans dt0
      refine Mono.if_want rfl ?_
      have z47 : a.eval (.tmp 47) = .bool false := Mono.dep_at hdu (i := 6) (d := 47) rfl rfl rfl
      simp [Act.eval] at z47
      have z60 : a.eval (.tmp 60) = undef := Mono.dep_at hdu (i := 19) (d := 60) rfl rfl rfl
      simp [Act.eval] at z60
      exact Mono.ok_val (.bool false) (by simp [execOp, z47, z60, go_sem, c1, c2, df0, df1, dt0, b9]) rfl
  intro u hu
  simp only [Mono.Fin]
  rintro _ rfl _ rfl _ rfl _ rfl _ rfl _ rfl _ rfl _ rfl _ rfl _ rfl _ rfl _ rfl _ rfl _ rfl _ rfl _ rfl _ rfl _ rfl _ rfl _ rfl _ rfl
  simp [Act.put]
  go_wp2_with fail
  go_ret
  exact ⟨rfl, hu3.trans (hu.mono hu3.size)⟩
set_option maxRecDepth 100000 in
set_option maxHeartbeats 1600000 in
/-- What is lost: the path is cut. -/
theorem SendLost2 {X : Nat → Prop} {w : World} {S : Nat} {hosts : Int} {fs : List F} {cut : Int → Int → Int → Bool} {n : Nat} (h : Net X w S hosts fs cut n) (fh fp th tp : Int) (p : Option Addr) (q c : Nat) (hok : sendArg hosts fh fp th tp = true) (hq : q ≤ 4096) (hno : fs.length < 1024) (hct : cut fh th fp = true) :
    Calls Try.prog 12 #[.pointer (some ⟨S, 0, none⟩), .agg #[.int .i64 fh, .int .i64 fp], .agg #[.int .i64 th, .int .i64 tp], .slice p q c] w fun e w' => e = .returned (.int .i64 0) ∧ Below w.heap.size w w' := by
  obtain ⟨zs, pl, m, cl, b, D, h⟩ := h
  obtain ⟨hh, h1, h2, h3, i1, i2, i3⟩ := sendArg_iff _ _ _ _ _ h.hosts.2 hok
  have PH := Lib.hid (fun L u (hu : Below w.heap.size w u) h' => host fh th hosts (.slice pl m cl) (.map (some b)) S L u (h.row.ext hu) h')
  rw [hh] at PH
  have HR := Lib.hid h.row
  have HML : m ≤ 1024 := by have := h.ok.1; rwa [h.flen] at this
  have HM := Lib.hid (fun u (hu : Below w.heap.size w u) => run_lookupB (P := Try.prog) (w := u) 59 65 4 keyed65 Try.underlying59 Try.underlying4 (by kernel_rfl) b n D (h.map.kept (grown_below none hu) (by simp)) _ _ (keyOf65 fh th fp i1 i3 i2) (cut fh th fp) (h.says.2 fh th fp i1 i3 i2))
  have b9 : decide ((m : Int) < 1024) = true := decide_eq_true (by have := h.flen; omega)
  rw [hct] at HM
  clear hh hok h i1 i2 i3
  clear hct hno
  go_enter Try.func12, Try.ntmps12
  go_upto_region 5 with (first
    | ((with_reducible refine wpl_boxAt rfl 30 (.tmp 1) rfl #[.int .i64 fh, .int .i64 fp] ?_ ?_); rfl; go_must (intro w1 hat1 hb1 hs1; have HS1 := Lib.hid hs1))
    | ((with_reducible refine wpl_boxAt rfl 30 (.tmp 2) rfl #[.int .i64 th, .int .i64 tp] ?_ ?_); rfl; go_must (intro w2 hat2 hb2 hs2; clear hs2; have hatf := hat1.ext hb2; have hu2 := hb1.trans (hb2.mono hb1.size); clear hat1 hb2 hs1; have cf0 := hatf.cell 0; have ct0 := hat2.cell 0; simp at cf0 ct0))
    | (go_at_call 21; go_must (have hz := (Below.refl w2.heap.size w2).alloc (Nat.le_refl _) (.cells #[.int .i64 fh, .int .i64 th] 3); have huz := hu2.trans (hz.mono hu2.size); refine (PH.out _ _ huz (At.new w2 3 _)).mono ?_; clear hz; rintro e w3 ⟨rfl, hb3⟩; have hz := (Below.refl w2.heap.size w2).alloc (Nat.le_refl _) (.cells #[.int .i64 fh, .int .i64 th] 3); have hu3 := huz.trans (hb3.mono huz.size); have hatf3 := (hatf.ext hz).ext hb3; have hatt3 := (hat2.ext hz).ext hb3; have df0 := hatf3.cell 0; have df1 := hatf3.cell 1; have dt0 := hatt3.cell 0; have dt1 := hatt3.cell 1; simp at df0 df1 dt0 dt1; clear hz cf0 ct0))
    | (go_at_call 22; go_must (refine (path _ _).mono ?_; rintro e w4 ⟨rfl, rfl⟩)))
  have hS4 := HR.out.ext hu3
  have lS := hS4.lt
  have lf := hatf3.lt
  have lt := hatt3.lt
  have c1 := hS4.cell 1
  have c2 := hS4.cell 2
  simp at c1 c2
  refine Mono.wp_region_mono [some 41, some 42, some 43, some 44, some 45, some 46, some 47, some 48, some 49, some 50, some 51, some 52, some 53, some 54, some 55, some 56, some 57, some 58, some 59, some 60, some 61] [Mono.isV (.pointer (some ⟨S, 0, none⟩)), Mono.isV (.pointer (some ⟨S, 0, none⟩)), Mono.isV (.pointer (some ⟨S, 1, none⟩)), Mono.isV (.slice pl m cl), Mono.isV (.int .i64 m), Mono.isV (.bool true), Mono.isV (.bool true), Mono.isV (.pointer (some ⟨S, 0, none⟩)), Mono.isV (.pointer (some ⟨S, 0, none⟩)), Mono.isV (.pointer (some ⟨S, 2, none⟩)), Mono.isV (.map (some b)), Mono.isV (.pointer (some ⟨w.heap.size, 0, none⟩)), Mono.isV (.int .i64 fh), Mono.isV (.pointer (some ⟨w1.heap.size, 0, none⟩)), Mono.isV (.int .i64 th), Mono.isV (.pointer (some ⟨w.heap.size, 1, none⟩)), Mono.isV (.int .i64 fp), Mono.isV (.agg #[.int .i64 fh, .int .i64 th, .int .i64 fp]), Mono.isV (.bool true), Mono.isV (.bool false), Mono.isV (.bool false)] (by kernel_rfl) (by kernel_rfl) ?_ ?_
  · simp only [Mono.OpGoals, and_true]
    refine ⟨?_, ?_, ?_, ?_, ?_, ?_, ?_, ?_, ?_, ?_, ?_, ?_, ?_, ?_, ?_, ?_, ?_, ?_, ?_, ?_, ?_⟩
    · intro a u hbu hsu hdu
      have c1 := (hbu.cell (p := ⟨S, 1, none⟩) lS).trans c1; have c2 := (hbu.cell (p := ⟨S, 2, none⟩) lS).trans c2; have df0 := (hbu.cell (p := ⟨w.heap.size, 0, none⟩) lf).trans df0; have df1 := (hbu.cell (p := ⟨w.heap.size, 1, none⟩) lf).trans df1; have dt0 := (hbu.cell (p := ⟨w1.heap.size, 0, none⟩) lt).trans dt0
      refine Mono.if_want rfl ?_
      exact Mono.ok_move (.tmp 0) rfl (hsu 0 (by decide))
    · intro a u hbu hsu hdu
      have c1 := (hbu.cell (p := ⟨S, 1, none⟩) lS).trans c1; have c2 := (hbu.cell (p := ⟨S, 2, none⟩) lS).trans c2; have df0 := (hbu.cell (p := ⟨w.heap.size, 0, none⟩) lf).trans df0; have df1 := (hbu.cell (p := ⟨w.heap.size, 1, none⟩) lf).trans df1; have dt0 := (hbu.cell (p := ⟨w1.heap.size, 0, none⟩) lt).trans dt0
      refine Mono.if_want rfl ?_
      have z41 : a.eval (.tmp 41) = .pointer (some ⟨S, 0, none⟩) := Mono.dep_at hdu (i := 0) (d := 41) rfl rfl rfl
      simp [Act.eval] at z41
      exact Mono.ok_val (.pointer (some ⟨S, 0, none⟩)) (by simp [execOp, z41, go_sem, c1, c2, df0, df1, dt0, b9]) rfl
    · intro a u hbu hsu hdu
      have c1 := (hbu.cell (p := ⟨S, 1, none⟩) lS).trans c1; have c2 := (hbu.cell (p := ⟨S, 2, none⟩) lS).trans c2; have df0 := (hbu.cell (p := ⟨w.heap.size, 0, none⟩) lf).trans df0; have df1 := (hbu.cell (p := ⟨w.heap.size, 1, none⟩) lf).trans df1; have dt0 := (hbu.cell (p := ⟨w1.heap.size, 0, none⟩) lt).trans dt0
      refine Mono.if_want rfl ?_
      have z42 : a.eval (.tmp 42) = .pointer (some ⟨S, 0, none⟩) := Mono.dep_at hdu (i := 1) (d := 42) rfl rfl rfl
      simp [Act.eval] at z42
      exact Mono.ok_val (.pointer (some ⟨S, 1, none⟩)) (by simp [execOp, z42, go_sem, c1, c2, df0, df1, dt0, b9]) rfl
    · intro a u hbu hsu hdu
      have c1 := (hbu.cell (p := ⟨S, 1, none⟩) lS).trans c1; have c2 := (hbu.cell (p := ⟨S, 2, none⟩) lS).trans c2; have df0 := (hbu.cell (p := ⟨w.heap.size, 0, none⟩) lf).trans df0; have df1 := (hbu.cell (p := ⟨w.heap.size, 1, none⟩) lf).trans df1; have dt0 := (hbu.cell (p := ⟨w1.heap.size, 0, none⟩) lt).trans dt0
      refine Mono.if_want rfl ?_
      have z43 : a.eval (.tmp 43) = .pointer (some ⟨S, 1, none⟩) := Mono.dep_at hdu (i := 2) (d := 43) rfl rfl rfl
      simp [Act.eval] at z43
      exact Mono.ok_val (.slice pl m cl) (by simp [execOp, z43, go_sem, c1, c2, df0, df1, dt0, b9]) rfl
    · intro a u hbu hsu hdu
      have c1 := (hbu.cell (p := ⟨S, 1, none⟩) lS).trans c1; have c2 := (hbu.cell (p := ⟨S, 2, none⟩) lS).trans c2; have df0 := (hbu.cell (p := ⟨w.heap.size, 0, none⟩) lf).trans df0; have df1 := (hbu.cell (p := ⟨w.heap.size, 1, none⟩) lf).trans df1; have dt0 := (hbu.cell (p := ⟨w1.heap.size, 0, none⟩) lt).trans dt0
      refine Mono.if_want rfl ?_
      have z44 : a.eval (.tmp 44) = .slice pl m cl := Mono.dep_at hdu (i := 3) (d := 44) rfl rfl rfl
      simp [Act.eval] at z44
      exact Mono.ok_val (.int .i64 m) (by simp [execOp, z44, go_sem, c1, c2, df0, df1, dt0, b9]) rfl
    · intro a u hbu hsu hdu
      have c1 := (hbu.cell (p := ⟨S, 1, none⟩) lS).trans c1; have c2 := (hbu.cell (p := ⟨S, 2, none⟩) lS).trans c2; have df0 := (hbu.cell (p := ⟨w.heap.size, 0, none⟩) lf).trans df0; have df1 := (hbu.cell (p := ⟨w.heap.size, 1, none⟩) lf).trans df1; have dt0 := (hbu.cell (p := ⟨w1.heap.size, 0, none⟩) lt).trans dt0
      refine Mono.if_want rfl ?_
      have z45 : a.eval (.tmp 45) = .int .i64 m := Mono.dep_at hdu (i := 4) (d := 45) rfl rfl rfl
      simp [Act.eval] at z45
      exact Mono.ok_val (.bool true) (by simp [execOp, z45, go_sem, c1, c2, df0, df1, dt0, b9]) rfl
    · intro a u hbu hsu hdu
      have c1 := (hbu.cell (p := ⟨S, 1, none⟩) lS).trans c1; have c2 := (hbu.cell (p := ⟨S, 2, none⟩) lS).trans c2; have df0 := (hbu.cell (p := ⟨w.heap.size, 0, none⟩) lf).trans df0; have df1 := (hbu.cell (p := ⟨w.heap.size, 1, none⟩) lf).trans df1; have dt0 := (hbu.cell (p := ⟨w1.heap.size, 0, none⟩) lt).trans dt0
      refine Mono.if_want rfl ?_
      exact Mono.ok_move (.tmp 46) rfl (Mono.dep_at hdu (i := 5) (d := 46) rfl rfl rfl)
    · intro a u hbu hsu hdu
      have c1 := (hbu.cell (p := ⟨S, 1, none⟩) lS).trans c1; have c2 := (hbu.cell (p := ⟨S, 2, none⟩) lS).trans c2; have df0 := (hbu.cell (p := ⟨w.heap.size, 0, none⟩) lf).trans df0; have df1 := (hbu.cell (p := ⟨w.heap.size, 1, none⟩) lf).trans df1; have dt0 := (hbu.cell (p := ⟨w1.heap.size, 0, none⟩) lt).trans dt0
      refine Mono.if_want (Mono.want_at (c := true) rfl rfl (Mono.dep_at hdu (i := 6) (d := 47) rfl rfl rfl) rfl) ?_
      exact Mono.ok_move (.tmp 0) rfl (hsu 0 (by decide))
    · intro a u hbu hsu hdu
      have c1 := (hbu.cell (p := ⟨S, 1, none⟩) lS).trans c1; have c2 := (hbu.cell (p := ⟨S, 2, none⟩) lS).trans c2; have df0 := (hbu.cell (p := ⟨w.heap.size, 0, none⟩) lf).trans df0; have df1 := (hbu.cell (p := ⟨w.heap.size, 1, none⟩) lf).trans df1; have dt0 := (hbu.cell (p := ⟨w1.heap.size, 0, none⟩) lt).trans dt0
      refine Mono.if_want (Mono.want_at (c := true) rfl rfl (Mono.dep_at hdu (i := 6) (d := 47) rfl rfl rfl) rfl) ?_
      have z48 : a.eval (.tmp 48) = .pointer (some ⟨S, 0, none⟩) := Mono.dep_at hdu (i := 7) (d := 48) rfl rfl rfl
      simp [Act.eval] at z48
      exact Mono.ok_val (.pointer (some ⟨S, 0, none⟩)) (by simp [execOp, z48, go_sem, c1, c2, df0, df1, dt0, b9]) rfl
    · intro a u hbu hsu hdu
      have c1 := (hbu.cell (p := ⟨S, 1, none⟩) lS).trans c1; have c2 := (hbu.cell (p := ⟨S, 2, none⟩) lS).trans c2; have df0 := (hbu.cell (p := ⟨w.heap.size, 0, none⟩) lf).trans df0; have df1 := (hbu.cell (p := ⟨w.heap.size, 1, none⟩) lf).trans df1; have dt0 := (hbu.cell (p := ⟨w1.heap.size, 0, none⟩) lt).trans dt0
      refine Mono.if_want (Mono.want_at (c := true) rfl rfl (Mono.dep_at hdu (i := 6) (d := 47) rfl rfl rfl) rfl) ?_
      have z49 : a.eval (.tmp 49) = .pointer (some ⟨S, 0, none⟩) := Mono.dep_at hdu (i := 8) (d := 49) rfl rfl rfl
      simp [Act.eval] at z49
      exact Mono.ok_val (.pointer (some ⟨S, 2, none⟩)) (by simp [execOp, z49, go_sem, c1, c2, df0, df1, dt0, b9]) rfl
    · intro a u hbu hsu hdu
      have c1 := (hbu.cell (p := ⟨S, 1, none⟩) lS).trans c1; have c2 := (hbu.cell (p := ⟨S, 2, none⟩) lS).trans c2; have df0 := (hbu.cell (p := ⟨w.heap.size, 0, none⟩) lf).trans df0; have df1 := (hbu.cell (p := ⟨w.heap.size, 1, none⟩) lf).trans df1; have dt0 := (hbu.cell (p := ⟨w1.heap.size, 0, none⟩) lt).trans dt0
      refine Mono.if_want (Mono.want_at (c := true) rfl rfl (Mono.dep_at hdu (i := 6) (d := 47) rfl rfl rfl) rfl) ?_
      have z50 : a.eval (.tmp 50) = .pointer (some ⟨S, 2, none⟩) := Mono.dep_at hdu (i := 9) (d := 50) rfl rfl rfl
      simp [Act.eval] at z50
      exact Mono.ok_val (.map (some b)) (by simp [execOp, z50, go_sem, c1, c2, df0, df1, dt0, b9]) rfl
    · intro a u hbu hsu hdu
      have c1 := (hbu.cell (p := ⟨S, 1, none⟩) lS).trans c1; have c2 := (hbu.cell (p := ⟨S, 2, none⟩) lS).trans c2; have df0 := (hbu.cell (p := ⟨w.heap.size, 0, none⟩) lf).trans df0; have df1 := (hbu.cell (p := ⟨w.heap.size, 1, none⟩) lf).trans df1; have dt0 := (hbu.cell (p := ⟨w1.heap.size, 0, none⟩) lt).trans dt0
      refine Mono.if_want (Mono.want_at (c := true) rfl rfl (Mono.dep_at hdu (i := 6) (d := 47) rfl rfl rfl) rfl) ?_
      have z5 : a.eval (.tmp 5) = .pointer (some ⟨w.heap.size, 0, none⟩) := hsu 5 (by decide)
      simp [Act.eval] at z5
      exact Mono.ok_val (.pointer (some ⟨w.heap.size, 0, none⟩)) (by simp [execOp, z5, go_sem, c1, c2, df0, df1, dt0, b9]) rfl
    · intro a u hbu hsu hdu
      have c1 := (hbu.cell (p := ⟨S, 1, none⟩) lS).trans c1; have c2 := (hbu.cell (p := ⟨S, 2, none⟩) lS).trans c2; have df0 := (hbu.cell (p := ⟨w.heap.size, 0, none⟩) lf).trans df0; have df1 := (hbu.cell (p := ⟨w.heap.size, 1, none⟩) lf).trans df1; have dt0 := (hbu.cell (p := ⟨w1.heap.size, 0, none⟩) lt).trans dt0
      refine Mono.if_want (Mono.want_at (c := true) rfl rfl (Mono.dep_at hdu (i := 6) (d := 47) rfl rfl rfl) rfl) ?_
      have z52 : a.eval (.tmp 52) = .pointer (some ⟨w.heap.size, 0, none⟩) := Mono.dep_at hdu (i := 11) (d := 52) rfl rfl rfl
      simp [Act.eval] at z52
      exact Mono.ok_val (.int .i64 fh) (by simp [execOp, z52, go_sem, c1, c2, df0, df1, dt0, b9]) rfl
    · intro a u hbu hsu hdu
      have c1 := (hbu.cell (p := ⟨S, 1, none⟩) lS).trans c1; have c2 := (hbu.cell (p := ⟨S, 2, none⟩) lS).trans c2; have df0 := (hbu.cell (p := ⟨w.heap.size, 0, none⟩) lf).trans df0; have df1 := (hbu.cell (p := ⟨w.heap.size, 1, none⟩) lf).trans df1; have dt0 := (hbu.cell (p := ⟨w1.heap.size, 0, none⟩) lt).trans dt0
      refine Mono.if_want (Mono.want_at (c := true) rfl rfl (Mono.dep_at hdu (i := 6) (d := 47) rfl rfl rfl) rfl) ?_
      have z6 : a.eval (.tmp 6) = .pointer (some ⟨w1.heap.size, 0, none⟩) := hsu 6 (by decide)
      simp [Act.eval] at z6
      exact Mono.ok_val (.pointer (some ⟨w1.heap.size, 0, none⟩)) (by simp [execOp, z6, go_sem, c1, c2, df0, df1, dt0, b9]) rfl
    · intro a u hbu hsu hdu
      have c1 := (hbu.cell (p := ⟨S, 1, none⟩) lS).trans c1; have c2 := (hbu.cell (p := ⟨S, 2, none⟩) lS).trans c2; have df0 := (hbu.cell (p := ⟨w.heap.size, 0, none⟩) lf).trans df0; have df1 := (hbu.cell (p := ⟨w.heap.size, 1, none⟩) lf).trans df1; have dt0 := (hbu.cell (p := ⟨w1.heap.size, 0, none⟩) lt).trans dt0
      refine Mono.if_want (Mono.want_at (c := true) rfl rfl (Mono.dep_at hdu (i := 6) (d := 47) rfl rfl rfl) rfl) ?_
      have z54 : a.eval (.tmp 54) = .pointer (some ⟨w1.heap.size, 0, none⟩) := Mono.dep_at hdu (i := 13) (d := 54) rfl rfl rfl
      simp [Act.eval] at z54
      exact Mono.ok_val (.int .i64 th) (by simp [execOp, z54, go_sem, c1, c2, df0, df1, dt0, b9]) rfl
    · intro a u hbu hsu hdu
      have c1 := (hbu.cell (p := ⟨S, 1, none⟩) lS).trans c1; have c2 := (hbu.cell (p := ⟨S, 2, none⟩) lS).trans c2; have df0 := (hbu.cell (p := ⟨w.heap.size, 0, none⟩) lf).trans df0; have df1 := (hbu.cell (p := ⟨w.heap.size, 1, none⟩) lf).trans df1; have dt0 := (hbu.cell (p := ⟨w1.heap.size, 0, none⟩) lt).trans dt0
      refine Mono.if_want (Mono.want_at (c := true) rfl rfl (Mono.dep_at hdu (i := 6) (d := 47) rfl rfl rfl) rfl) ?_
      have z5 : a.eval (.tmp 5) = .pointer (some ⟨w.heap.size, 0, none⟩) := hsu 5 (by decide)
      simp [Act.eval] at z5
      exact Mono.ok_val (.pointer (some ⟨w.heap.size, 1, none⟩)) (by simp [execOp, z5, go_sem, c1, c2, df0, df1, dt0, b9]) rfl
    · intro a u hbu hsu hdu
      have c1 := (hbu.cell (p := ⟨S, 1, none⟩) lS).trans c1; have c2 := (hbu.cell (p := ⟨S, 2, none⟩) lS).trans c2; have df0 := (hbu.cell (p := ⟨w.heap.size, 0, none⟩) lf).trans df0; have df1 := (hbu.cell (p := ⟨w.heap.size, 1, none⟩) lf).trans df1; have dt0 := (hbu.cell (p := ⟨w1.heap.size, 0, none⟩) lt).trans dt0
      refine Mono.if_want (Mono.want_at (c := true) rfl rfl (Mono.dep_at hdu (i := 6) (d := 47) rfl rfl rfl) rfl) ?_
      have z56 : a.eval (.tmp 56) = .pointer (some ⟨w.heap.size, 1, none⟩) := Mono.dep_at hdu (i := 15) (d := 56) rfl rfl rfl
      simp [Act.eval] at z56
      exact Mono.ok_val (.int .i64 fp) (by simp [execOp, z56, go_sem, c1, c2, df0, df1, dt0, b9]) rfl
    · intro a u hbu hsu hdu
      have c1 := (hbu.cell (p := ⟨S, 1, none⟩) lS).trans c1; have c2 := (hbu.cell (p := ⟨S, 2, none⟩) lS).trans c2; have df0 := (hbu.cell (p := ⟨w.heap.size, 0, none⟩) lf).trans df0; have df1 := (hbu.cell (p := ⟨w.heap.size, 1, none⟩) lf).trans df1; have dt0 := (hbu.cell (p := ⟨w1.heap.size, 0, none⟩) lt).trans dt0
      refine Mono.if_want (Mono.want_at (c := true) rfl rfl (Mono.dep_at hdu (i := 6) (d := 47) rfl rfl rfl) rfl) ?_
      have z53 : a.eval (.tmp 53) = .int .i64 fh := Mono.dep_at hdu (i := 12) (d := 53) rfl rfl rfl
      simp [Act.eval] at z53
      have z55 : a.eval (.tmp 55) = .int .i64 th := Mono.dep_at hdu (i := 14) (d := 55) rfl rfl rfl
      simp [Act.eval] at z55
      have z57 : a.eval (.tmp 57) = .int .i64 fp := Mono.dep_at hdu (i := 16) (d := 57) rfl rfl rfl
      simp [Act.eval] at z57
      exact Mono.ok_build 65 _ rfl #[(0, .int .i64 fh), (1, .int .i64 th), (2, .int .i64 fp)] (by simp [z53, z55, z57, Act.eval]) (.agg #[.int .i64 fh, .int .i64 th, .int .i64 fp]) (by kernel_rfl) rfl
    · intro a u hbu hsu hdu
      have c1 := (hbu.cell (p := ⟨S, 1, none⟩) lS).trans c1; have c2 := (hbu.cell (p := ⟨S, 2, none⟩) lS).trans c2; have df0 := (hbu.cell (p := ⟨w.heap.size, 0, none⟩) lf).trans df0; have df1 := (hbu.cell (p := ⟨w.heap.size, 1, none⟩) lf).trans df1; have dt0 := (hbu.cell (p := ⟨w1.heap.size, 0, none⟩) lt).trans dt0
      refine Mono.if_want (Mono.want_at (c := true) rfl rfl (Mono.dep_at hdu (i := 6) (d := 47) rfl rfl rfl) rfl) ?_
      have z51 : a.eval (.tmp 51) = .map (some b) := Mono.dep_at hdu (i := 10) (d := 51) rfl rfl rfl
      have z58 : a.eval (.tmp 58) = .agg #[.int .i64 fh, .int .i64 th, .int .i64 fp] := Mono.dep_at hdu (i := 17) (d := 58) rfl rfl rfl
      simp [Act.eval] at z51 z58
      exact Mono.ok_val (.bool true) (by have := HM.out u (hu3.trans (hbu.mono hu3.size)); simp [execOp, z51, z58, go_sem, this]) rfl
    · intro a u hbu hsu hdu
      have c1 := (hbu.cell (p := ⟨S, 1, none⟩) lS).trans c1; have c2 := (hbu.cell (p := ⟨S, 2, none⟩) lS).trans c2; have df0 := (hbu.cell (p := ⟨w.heap.size, 0, none⟩) lf).trans df0; have df1 := (hbu.cell (p := ⟨w.heap.size, 1, none⟩) lf).trans df1; have dt0 := (hbu.cell (p := ⟨w1.heap.size, 0, none⟩) lt).trans dt0
      refine Mono.if_want (Mono.want_at (c := true) rfl rfl (Mono.dep_at hdu (i := 6) (d := 47) rfl rfl rfl) rfl) ?_
      have z59 : a.eval (.tmp 59) = .bool true := Mono.dep_at hdu (i := 18) (d := 59) rfl rfl rfl
      simp [Act.eval] at z59
      exact Mono.ok_val (.bool false) (by simp [execOp, z59, go_sem, c1, c2, df0, df1, dt0, b9]) rfl
    · intro a u hbu hsu hdu
      have c1 := (hbu.cell (p := ⟨S, 1, none⟩) lS).trans c1; have c2 := (hbu.cell (p := ⟨S, 2, none⟩) lS).trans c2; have df0 := (hbu.cell (p := ⟨w.heap.size, 0, none⟩) lf).trans df0; have df1 := (hbu.cell (p := ⟨w.heap.size, 1, none⟩) lf).trans df1; have dt0 := (hbu.cell (p := ⟨w1.heap.size, 0, none⟩) lt).trans dt0
      refine Mono.if_want rfl ?_
      have z47 : a.eval (.tmp 47) = .bool true := Mono.dep_at hdu (i := 6) (d := 47) rfl rfl rfl
      simp [Act.eval] at z47
      have z60 : a.eval (.tmp 60) = .bool false := Mono.dep_at hdu (i := 19) (d := 60) rfl rfl rfl
      simp [Act.eval] at z60
      exact Mono.ok_val (.bool false) (by simp [execOp, z47, z60, go_sem, c1, c2, df0, df1, dt0, b9]) rfl
  intro u hu
  simp only [Mono.Fin]
  rintro _ rfl _ rfl _ rfl _ rfl _ rfl _ rfl _ rfl _ rfl _ rfl _ rfl _ rfl _ rfl _ rfl _ rfl _ rfl _ rfl _ rfl _ rfl _ rfl _ rfl _ rfl
  simp [Act.put]
  go_wp2_with fail
  go_ret
  exact ⟨rfl, hu3.trans (hu.mono hu3.size)⟩
theorem run_addr {w : World} {g : Nat} {a b : Int} (h : At w g 30 #[.int .i64 a, .int .i64 b]) : (Instr.loadAt 30 (.pointer (some ⟨g, 0, none⟩))).run Try.prog w = .ok (.agg #[.int .i64 a, .int .i64 b]) w := by
  have hr := run_loadVar_mid (P := Try.prog) w g 0 30 (#[.int .i64 a, .int .i64 b] : Array Value).toList _ (Ops.range_at h) Try.underlying30 rfl (by kernel_rfl)
  simp only [Instr.loadAt, Instr.sureAddr, Sem.run_bind, Sem.run_pure, Result.andThen_ok, hr]
set_option maxRecDepth 100000 in
set_option maxHeartbeats 3200000 in
/-- What goes. -/
theorem SendGoes {X : Nat → Prop} {w : World} {S : Nat} {hosts : Int} {fs : List F} {cut : Int → Int → Int → Bool} {n : Nat} (h : Net X w S hosts fs cut n) (fh fp th tp : Int) (v : Value) (xs : List Int) (hr : Reads .u8 w v xs) (hx : ∀ x ∈ xs, 0 ≤ x ∧ x ≤ 255) (hok : sendArg hosts fh fp th tp = true) (hq' : xs.length ≤ 4096) (hno : fs.length < 1024) (hct : cut fh th fp = false) :
    Calls Try.prog 12 #[.pointer (some ⟨S, 0, none⟩), .agg #[.int .i64 fh, .int .i64 fp], .agg #[.int .i64 th, .int .i64 tp], v] w fun e w' => e = .returned (.int .i64 0) ∧ Net (more X w w') w' S hosts (fs ++ [⟨fh, fp, th, tp, xs, false⟩]) cut n ∧ ButX X w w' := by
  have PC := Lib.hid (fun u (hu : Below w.heap.size w u) => cloneF ⟨fh, fp, th, tp, xs, false⟩ v u (hr.below hu) (by show xs.length ≤ _; omega))
  obtain ⟨p, c, rfl, _⟩ := hr
  obtain ⟨zs, pl, m, cl, b, D, h⟩ := h
  obtain ⟨hh, h1, h2, h3, i1, i2, i3⟩ := sendArg_iff _ _ _ _ _ h.hosts.2 hok
  have PH := Lib.hid (fun L u (hu : Below w.heap.size w u) h' => host fh th hosts (.slice pl m cl) (.map (some b)) S L u (h.row.ext hu) h')
  rw [hh] at PH
  have HR := Lib.hid h.row
  have HML : m ≤ 1024 := by have := h.ok.1; rwa [h.flen] at this
  have HM := Lib.hid (fun u (hu : Below w.heap.size w u) => run_lookupB (P := Try.prog) (w := u) 59 65 4 keyed65 Try.underlying59 Try.underlying4 (by kernel_rfl) b n D (h.map.kept (grown_below none hu) (by simp)) _ _ (keyOf65 fh th fp i1 i3 i2) (cut fh th fp) (h.says.2 fh th fp i1 i3 i2))
  have b9 : decide ((m : Int) < 1024) = true := decide_eq_true (by have := h.flen; omega)
  have HNO := Lib.hid (show m < 1024 by have := h.flen; omega)
  have HZ : zs.length ≤ 99999 := by have := h.len; omega
  rw [hct] at HM
  have H := Lib.hid h
  have HFO := Lib.hid (show (⟨fh, fp, th, tp, xs, false⟩ : F).ok from ⟨hq', hx⟩)
  obtain ⟨q, hq2⟩ : ∃ q, xs.length = q := ⟨_, rfl⟩
  rw [hq2] at PC hq' ⊢
  have HQ := Lib.hid hq2
  have hq : q ≤ 4096 := hq'
  clear hh hok h i1 i2 i3 hct hno hx hq' hq2
  go_enter Try.func12, Try.ntmps12
  go_upto_region 5 with (first
    | ((with_reducible refine wpl_boxAt rfl 30 (.tmp 1) rfl #[.int .i64 fh, .int .i64 fp] ?_ ?_); rfl; go_must (intro w1 hat1 hb1 hs1; have HS1 := Lib.hid hs1))
    | ((with_reducible refine wpl_boxAt rfl 30 (.tmp 2) rfl #[.int .i64 th, .int .i64 tp] ?_ ?_); rfl; go_must (intro w2 hat2 hb2 hs2; clear hs2; have hatf := hat1.ext hb2; have hu2 := hb1.trans (hb2.mono hb1.size); clear hat1 hb2 hs1; have cf0 := hatf.cell 0; have ct0 := hat2.cell 0; simp at cf0 ct0))
    | (go_at_call 21; go_must (have hz := (Below.refl w2.heap.size w2).alloc (Nat.le_refl _) (.cells #[.int .i64 fh, .int .i64 th] 3); have huz := hu2.trans (hz.mono hu2.size); refine (PH.out _ _ huz (At.new w2 3 _)).mono ?_; clear hz; rintro e w3 ⟨rfl, hb3⟩; have hz := (Below.refl w2.heap.size w2).alloc (Nat.le_refl _) (.cells #[.int .i64 fh, .int .i64 th] 3); have hu3 := huz.trans (hb3.mono huz.size); have hatf3 := (hatf.ext hz).ext hb3; have hatt3 := (hat2.ext hz).ext hb3; have df0 := hatf3.cell 0; have df1 := hatf3.cell 1; have dt0 := hatt3.cell 0; have dt1 := hatt3.cell 1; simp at df0 df1 dt0 dt1; clear hz cf0 ct0))
    | (go_at_call 22; go_must (refine (path _ _).mono ?_; rintro e w4 ⟨rfl, rfl⟩)))
  have hS4 := HR.out.ext hu3
  have lS := hS4.lt
  have lf := hatf3.lt
  have lt := hatt3.lt
  have c1 := hS4.cell 1
  have c2 := hS4.cell 2
  simp at c1 c2
  refine Mono.wp_region_mono [some 41, some 42, some 43, some 44, some 45, some 46, some 47, some 48, some 49, some 50, some 51, some 52, some 53, some 54, some 55, some 56, some 57, some 58, some 59, some 60, some 61] [Mono.isV (.pointer (some ⟨S, 0, none⟩)), Mono.isV (.pointer (some ⟨S, 0, none⟩)), Mono.isV (.pointer (some ⟨S, 1, none⟩)), Mono.isV (.slice pl m cl), Mono.isV (.int .i64 m), Mono.isV (.bool true), Mono.isV (.bool true), Mono.isV (.pointer (some ⟨S, 0, none⟩)), Mono.isV (.pointer (some ⟨S, 0, none⟩)), Mono.isV (.pointer (some ⟨S, 2, none⟩)), Mono.isV (.map (some b)), Mono.isV (.pointer (some ⟨w.heap.size, 0, none⟩)), Mono.isV (.int .i64 fh), Mono.isV (.pointer (some ⟨w1.heap.size, 0, none⟩)), Mono.isV (.int .i64 th), Mono.isV (.pointer (some ⟨w.heap.size, 1, none⟩)), Mono.isV (.int .i64 fp), Mono.isV (.agg #[.int .i64 fh, .int .i64 th, .int .i64 fp]), Mono.isV (.bool false), Mono.isV (.bool true), Mono.isV (.bool true)] (by kernel_rfl) (by kernel_rfl) ?_ ?_
  · simp only [Mono.OpGoals, and_true]
    refine ⟨?_, ?_, ?_, ?_, ?_, ?_, ?_, ?_, ?_, ?_, ?_, ?_, ?_, ?_, ?_, ?_, ?_, ?_, ?_, ?_, ?_⟩
    · intro a u hbu hsu hdu
      have c1 := (hbu.cell (p := ⟨S, 1, none⟩) lS).trans c1; have c2 := (hbu.cell (p := ⟨S, 2, none⟩) lS).trans c2; have df0 := (hbu.cell (p := ⟨w.heap.size, 0, none⟩) lf).trans df0; have df1 := (hbu.cell (p := ⟨w.heap.size, 1, none⟩) lf).trans df1; have dt0 := (hbu.cell (p := ⟨w1.heap.size, 0, none⟩) lt).trans dt0
      refine Mono.if_want rfl ?_
      exact Mono.ok_move (.tmp 0) rfl (hsu 0 (by decide))
    · intro a u hbu hsu hdu
      have c1 := (hbu.cell (p := ⟨S, 1, none⟩) lS).trans c1; have c2 := (hbu.cell (p := ⟨S, 2, none⟩) lS).trans c2; have df0 := (hbu.cell (p := ⟨w.heap.size, 0, none⟩) lf).trans df0; have df1 := (hbu.cell (p := ⟨w.heap.size, 1, none⟩) lf).trans df1; have dt0 := (hbu.cell (p := ⟨w1.heap.size, 0, none⟩) lt).trans dt0
      refine Mono.if_want rfl ?_
      have z41 : a.eval (.tmp 41) = .pointer (some ⟨S, 0, none⟩) := Mono.dep_at hdu (i := 0) (d := 41) rfl rfl rfl
      simp [Act.eval] at z41
      exact Mono.ok_val (.pointer (some ⟨S, 0, none⟩)) (by simp [execOp, z41, go_sem, c1, c2, df0, df1, dt0, b9]) rfl
    · intro a u hbu hsu hdu
      have c1 := (hbu.cell (p := ⟨S, 1, none⟩) lS).trans c1; have c2 := (hbu.cell (p := ⟨S, 2, none⟩) lS).trans c2; have df0 := (hbu.cell (p := ⟨w.heap.size, 0, none⟩) lf).trans df0; have df1 := (hbu.cell (p := ⟨w.heap.size, 1, none⟩) lf).trans df1; have dt0 := (hbu.cell (p := ⟨w1.heap.size, 0, none⟩) lt).trans dt0
      refine Mono.if_want rfl ?_
      have z42 : a.eval (.tmp 42) = .pointer (some ⟨S, 0, none⟩) := Mono.dep_at hdu (i := 1) (d := 42) rfl rfl rfl
      simp [Act.eval] at z42
      exact Mono.ok_val (.pointer (some ⟨S, 1, none⟩)) (by simp [execOp, z42, go_sem, c1, c2, df0, df1, dt0, b9]) rfl
    · intro a u hbu hsu hdu
      have c1 := (hbu.cell (p := ⟨S, 1, none⟩) lS).trans c1; have c2 := (hbu.cell (p := ⟨S, 2, none⟩) lS).trans c2; have df0 := (hbu.cell (p := ⟨w.heap.size, 0, none⟩) lf).trans df0; have df1 := (hbu.cell (p := ⟨w.heap.size, 1, none⟩) lf).trans df1; have dt0 := (hbu.cell (p := ⟨w1.heap.size, 0, none⟩) lt).trans dt0
      refine Mono.if_want rfl ?_
      have z43 : a.eval (.tmp 43) = .pointer (some ⟨S, 1, none⟩) := Mono.dep_at hdu (i := 2) (d := 43) rfl rfl rfl
      simp [Act.eval] at z43
      exact Mono.ok_val (.slice pl m cl) (by simp [execOp, z43, go_sem, c1, c2, df0, df1, dt0, b9]) rfl
    · intro a u hbu hsu hdu
      have c1 := (hbu.cell (p := ⟨S, 1, none⟩) lS).trans c1; have c2 := (hbu.cell (p := ⟨S, 2, none⟩) lS).trans c2; have df0 := (hbu.cell (p := ⟨w.heap.size, 0, none⟩) lf).trans df0; have df1 := (hbu.cell (p := ⟨w.heap.size, 1, none⟩) lf).trans df1; have dt0 := (hbu.cell (p := ⟨w1.heap.size, 0, none⟩) lt).trans dt0
      refine Mono.if_want rfl ?_
      have z44 : a.eval (.tmp 44) = .slice pl m cl := Mono.dep_at hdu (i := 3) (d := 44) rfl rfl rfl
      simp [Act.eval] at z44
      exact Mono.ok_val (.int .i64 m) (by simp [execOp, z44, go_sem, c1, c2, df0, df1, dt0, b9]) rfl
    · intro a u hbu hsu hdu
      have c1 := (hbu.cell (p := ⟨S, 1, none⟩) lS).trans c1; have c2 := (hbu.cell (p := ⟨S, 2, none⟩) lS).trans c2; have df0 := (hbu.cell (p := ⟨w.heap.size, 0, none⟩) lf).trans df0; have df1 := (hbu.cell (p := ⟨w.heap.size, 1, none⟩) lf).trans df1; have dt0 := (hbu.cell (p := ⟨w1.heap.size, 0, none⟩) lt).trans dt0
      refine Mono.if_want rfl ?_
      have z45 : a.eval (.tmp 45) = .int .i64 m := Mono.dep_at hdu (i := 4) (d := 45) rfl rfl rfl
      simp [Act.eval] at z45
      exact Mono.ok_val (.bool true) (by simp [execOp, z45, go_sem, c1, c2, df0, df1, dt0, b9]) rfl
    · intro a u hbu hsu hdu
      have c1 := (hbu.cell (p := ⟨S, 1, none⟩) lS).trans c1; have c2 := (hbu.cell (p := ⟨S, 2, none⟩) lS).trans c2; have df0 := (hbu.cell (p := ⟨w.heap.size, 0, none⟩) lf).trans df0; have df1 := (hbu.cell (p := ⟨w.heap.size, 1, none⟩) lf).trans df1; have dt0 := (hbu.cell (p := ⟨w1.heap.size, 0, none⟩) lt).trans dt0
      refine Mono.if_want rfl ?_
      exact Mono.ok_move (.tmp 46) rfl (Mono.dep_at hdu (i := 5) (d := 46) rfl rfl rfl)
    · intro a u hbu hsu hdu
      have c1 := (hbu.cell (p := ⟨S, 1, none⟩) lS).trans c1; have c2 := (hbu.cell (p := ⟨S, 2, none⟩) lS).trans c2; have df0 := (hbu.cell (p := ⟨w.heap.size, 0, none⟩) lf).trans df0; have df1 := (hbu.cell (p := ⟨w.heap.size, 1, none⟩) lf).trans df1; have dt0 := (hbu.cell (p := ⟨w1.heap.size, 0, none⟩) lt).trans dt0
      refine Mono.if_want (Mono.want_at (c := true) rfl rfl (Mono.dep_at hdu (i := 6) (d := 47) rfl rfl rfl) rfl) ?_
      exact Mono.ok_move (.tmp 0) rfl (hsu 0 (by decide))
    · intro a u hbu hsu hdu
      have c1 := (hbu.cell (p := ⟨S, 1, none⟩) lS).trans c1; have c2 := (hbu.cell (p := ⟨S, 2, none⟩) lS).trans c2; have df0 := (hbu.cell (p := ⟨w.heap.size, 0, none⟩) lf).trans df0; have df1 := (hbu.cell (p := ⟨w.heap.size, 1, none⟩) lf).trans df1; have dt0 := (hbu.cell (p := ⟨w1.heap.size, 0, none⟩) lt).trans dt0
      refine Mono.if_want (Mono.want_at (c := true) rfl rfl (Mono.dep_at hdu (i := 6) (d := 47) rfl rfl rfl) rfl) ?_
      have z48 : a.eval (.tmp 48) = .pointer (some ⟨S, 0, none⟩) := Mono.dep_at hdu (i := 7) (d := 48) rfl rfl rfl
      simp [Act.eval] at z48
      exact Mono.ok_val (.pointer (some ⟨S, 0, none⟩)) (by simp [execOp, z48, go_sem, c1, c2, df0, df1, dt0, b9]) rfl
    · intro a u hbu hsu hdu
      have c1 := (hbu.cell (p := ⟨S, 1, none⟩) lS).trans c1; have c2 := (hbu.cell (p := ⟨S, 2, none⟩) lS).trans c2; have df0 := (hbu.cell (p := ⟨w.heap.size, 0, none⟩) lf).trans df0; have df1 := (hbu.cell (p := ⟨w.heap.size, 1, none⟩) lf).trans df1; have dt0 := (hbu.cell (p := ⟨w1.heap.size, 0, none⟩) lt).trans dt0
      refine Mono.if_want (Mono.want_at (c := true) rfl rfl (Mono.dep_at hdu (i := 6) (d := 47) rfl rfl rfl) rfl) ?_
      have z49 : a.eval (.tmp 49) = .pointer (some ⟨S, 0, none⟩) := Mono.dep_at hdu (i := 8) (d := 49) rfl rfl rfl
      simp [Act.eval] at z49
      exact Mono.ok_val (.pointer (some ⟨S, 2, none⟩)) (by simp [execOp, z49, go_sem, c1, c2, df0, df1, dt0, b9]) rfl
    · intro a u hbu hsu hdu
      have c1 := (hbu.cell (p := ⟨S, 1, none⟩) lS).trans c1; have c2 := (hbu.cell (p := ⟨S, 2, none⟩) lS).trans c2; have df0 := (hbu.cell (p := ⟨w.heap.size, 0, none⟩) lf).trans df0; have df1 := (hbu.cell (p := ⟨w.heap.size, 1, none⟩) lf).trans df1; have dt0 := (hbu.cell (p := ⟨w1.heap.size, 0, none⟩) lt).trans dt0
      refine Mono.if_want (Mono.want_at (c := true) rfl rfl (Mono.dep_at hdu (i := 6) (d := 47) rfl rfl rfl) rfl) ?_
      have z50 : a.eval (.tmp 50) = .pointer (some ⟨S, 2, none⟩) := Mono.dep_at hdu (i := 9) (d := 50) rfl rfl rfl
      simp [Act.eval] at z50
      exact Mono.ok_val (.map (some b)) (by simp [execOp, z50, go_sem, c1, c2, df0, df1, dt0, b9]) rfl
    · intro a u hbu hsu hdu
      have c1 := (hbu.cell (p := ⟨S, 1, none⟩) lS).trans c1; have c2 := (hbu.cell (p := ⟨S, 2, none⟩) lS).trans c2; have df0 := (hbu.cell (p := ⟨w.heap.size, 0, none⟩) lf).trans df0; have df1 := (hbu.cell (p := ⟨w.heap.size, 1, none⟩) lf).trans df1; have dt0 := (hbu.cell (p := ⟨w1.heap.size, 0, none⟩) lt).trans dt0
      refine Mono.if_want (Mono.want_at (c := true) rfl rfl (Mono.dep_at hdu (i := 6) (d := 47) rfl rfl rfl) rfl) ?_
      have z5 : a.eval (.tmp 5) = .pointer (some ⟨w.heap.size, 0, none⟩) := hsu 5 (by decide)
      simp [Act.eval] at z5
      exact Mono.ok_val (.pointer (some ⟨w.heap.size, 0, none⟩)) (by simp [execOp, z5, go_sem, c1, c2, df0, df1, dt0, b9]) rfl
    · intro a u hbu hsu hdu
      have c1 := (hbu.cell (p := ⟨S, 1, none⟩) lS).trans c1; have c2 := (hbu.cell (p := ⟨S, 2, none⟩) lS).trans c2; have df0 := (hbu.cell (p := ⟨w.heap.size, 0, none⟩) lf).trans df0; have df1 := (hbu.cell (p := ⟨w.heap.size, 1, none⟩) lf).trans df1; have dt0 := (hbu.cell (p := ⟨w1.heap.size, 0, none⟩) lt).trans dt0
      refine Mono.if_want (Mono.want_at (c := true) rfl rfl (Mono.dep_at hdu (i := 6) (d := 47) rfl rfl rfl) rfl) ?_
      have z52 : a.eval (.tmp 52) = .pointer (some ⟨w.heap.size, 0, none⟩) := Mono.dep_at hdu (i := 11) (d := 52) rfl rfl rfl
      simp [Act.eval] at z52
      exact Mono.ok_val (.int .i64 fh) (by simp [execOp, z52, go_sem, c1, c2, df0, df1, dt0, b9]) rfl
    · intro a u hbu hsu hdu
      have c1 := (hbu.cell (p := ⟨S, 1, none⟩) lS).trans c1; have c2 := (hbu.cell (p := ⟨S, 2, none⟩) lS).trans c2; have df0 := (hbu.cell (p := ⟨w.heap.size, 0, none⟩) lf).trans df0; have df1 := (hbu.cell (p := ⟨w.heap.size, 1, none⟩) lf).trans df1; have dt0 := (hbu.cell (p := ⟨w1.heap.size, 0, none⟩) lt).trans dt0
      refine Mono.if_want (Mono.want_at (c := true) rfl rfl (Mono.dep_at hdu (i := 6) (d := 47) rfl rfl rfl) rfl) ?_
      have z6 : a.eval (.tmp 6) = .pointer (some ⟨w1.heap.size, 0, none⟩) := hsu 6 (by decide)
      simp [Act.eval] at z6
      exact Mono.ok_val (.pointer (some ⟨w1.heap.size, 0, none⟩)) (by simp [execOp, z6, go_sem, c1, c2, df0, df1, dt0, b9]) rfl
    · intro a u hbu hsu hdu
      have c1 := (hbu.cell (p := ⟨S, 1, none⟩) lS).trans c1; have c2 := (hbu.cell (p := ⟨S, 2, none⟩) lS).trans c2; have df0 := (hbu.cell (p := ⟨w.heap.size, 0, none⟩) lf).trans df0; have df1 := (hbu.cell (p := ⟨w.heap.size, 1, none⟩) lf).trans df1; have dt0 := (hbu.cell (p := ⟨w1.heap.size, 0, none⟩) lt).trans dt0
      refine Mono.if_want (Mono.want_at (c := true) rfl rfl (Mono.dep_at hdu (i := 6) (d := 47) rfl rfl rfl) rfl) ?_
      have z54 : a.eval (.tmp 54) = .pointer (some ⟨w1.heap.size, 0, none⟩) := Mono.dep_at hdu (i := 13) (d := 54) rfl rfl rfl
      simp [Act.eval] at z54
      exact Mono.ok_val (.int .i64 th) (by simp [execOp, z54, go_sem, c1, c2, df0, df1, dt0, b9]) rfl
    · intro a u hbu hsu hdu
      have c1 := (hbu.cell (p := ⟨S, 1, none⟩) lS).trans c1; have c2 := (hbu.cell (p := ⟨S, 2, none⟩) lS).trans c2; have df0 := (hbu.cell (p := ⟨w.heap.size, 0, none⟩) lf).trans df0; have df1 := (hbu.cell (p := ⟨w.heap.size, 1, none⟩) lf).trans df1; have dt0 := (hbu.cell (p := ⟨w1.heap.size, 0, none⟩) lt).trans dt0
      refine Mono.if_want (Mono.want_at (c := true) rfl rfl (Mono.dep_at hdu (i := 6) (d := 47) rfl rfl rfl) rfl) ?_
      have z5 : a.eval (.tmp 5) = .pointer (some ⟨w.heap.size, 0, none⟩) := hsu 5 (by decide)
      simp [Act.eval] at z5
      exact Mono.ok_val (.pointer (some ⟨w.heap.size, 1, none⟩)) (by simp [execOp, z5, go_sem, c1, c2, df0, df1, dt0, b9]) rfl
    · intro a u hbu hsu hdu
      have c1 := (hbu.cell (p := ⟨S, 1, none⟩) lS).trans c1; have c2 := (hbu.cell (p := ⟨S, 2, none⟩) lS).trans c2; have df0 := (hbu.cell (p := ⟨w.heap.size, 0, none⟩) lf).trans df0; have df1 := (hbu.cell (p := ⟨w.heap.size, 1, none⟩) lf).trans df1; have dt0 := (hbu.cell (p := ⟨w1.heap.size, 0, none⟩) lt).trans dt0
      refine Mono.if_want (Mono.want_at (c := true) rfl rfl (Mono.dep_at hdu (i := 6) (d := 47) rfl rfl rfl) rfl) ?_
      have z56 : a.eval (.tmp 56) = .pointer (some ⟨w.heap.size, 1, none⟩) := Mono.dep_at hdu (i := 15) (d := 56) rfl rfl rfl
      simp [Act.eval] at z56
      exact Mono.ok_val (.int .i64 fp) (by simp [execOp, z56, go_sem, c1, c2, df0, df1, dt0, b9]) rfl
    · intro a u hbu hsu hdu
      have c1 := (hbu.cell (p := ⟨S, 1, none⟩) lS).trans c1; have c2 := (hbu.cell (p := ⟨S, 2, none⟩) lS).trans c2; have df0 := (hbu.cell (p := ⟨w.heap.size, 0, none⟩) lf).trans df0; have df1 := (hbu.cell (p := ⟨w.heap.size, 1, none⟩) lf).trans df1; have dt0 := (hbu.cell (p := ⟨w1.heap.size, 0, none⟩) lt).trans dt0
      refine Mono.if_want (Mono.want_at (c := true) rfl rfl (Mono.dep_at hdu (i := 6) (d := 47) rfl rfl rfl) rfl) ?_
      have z53 : a.eval (.tmp 53) = .int .i64 fh := Mono.dep_at hdu (i := 12) (d := 53) rfl rfl rfl
      simp [Act.eval] at z53
      have z55 : a.eval (.tmp 55) = .int .i64 th := Mono.dep_at hdu (i := 14) (d := 55) rfl rfl rfl
      simp [Act.eval] at z55
      have z57 : a.eval (.tmp 57) = .int .i64 fp := Mono.dep_at hdu (i := 16) (d := 57) rfl rfl rfl
      simp [Act.eval] at z57
      exact Mono.ok_build 65 _ rfl #[(0, .int .i64 fh), (1, .int .i64 th), (2, .int .i64 fp)] (by simp [z53, z55, z57, Act.eval]) (.agg #[.int .i64 fh, .int .i64 th, .int .i64 fp]) (by kernel_rfl) rfl
    · intro a u hbu hsu hdu
      have c1 := (hbu.cell (p := ⟨S, 1, none⟩) lS).trans c1; have c2 := (hbu.cell (p := ⟨S, 2, none⟩) lS).trans c2; have df0 := (hbu.cell (p := ⟨w.heap.size, 0, none⟩) lf).trans df0; have df1 := (hbu.cell (p := ⟨w.heap.size, 1, none⟩) lf).trans df1; have dt0 := (hbu.cell (p := ⟨w1.heap.size, 0, none⟩) lt).trans dt0
      refine Mono.if_want (Mono.want_at (c := true) rfl rfl (Mono.dep_at hdu (i := 6) (d := 47) rfl rfl rfl) rfl) ?_
      have z51 : a.eval (.tmp 51) = .map (some b) := Mono.dep_at hdu (i := 10) (d := 51) rfl rfl rfl
      have z58 : a.eval (.tmp 58) = .agg #[.int .i64 fh, .int .i64 th, .int .i64 fp] := Mono.dep_at hdu (i := 17) (d := 58) rfl rfl rfl
      simp [Act.eval] at z51 z58
      exact Mono.ok_val (.bool false) (by have := HM.out u (hu3.trans (hbu.mono hu3.size)); simp [execOp, z51, z58, go_sem, this]) rfl
    · intro a u hbu hsu hdu
      have c1 := (hbu.cell (p := ⟨S, 1, none⟩) lS).trans c1; have c2 := (hbu.cell (p := ⟨S, 2, none⟩) lS).trans c2; have df0 := (hbu.cell (p := ⟨w.heap.size, 0, none⟩) lf).trans df0; have df1 := (hbu.cell (p := ⟨w.heap.size, 1, none⟩) lf).trans df1; have dt0 := (hbu.cell (p := ⟨w1.heap.size, 0, none⟩) lt).trans dt0
      refine Mono.if_want (Mono.want_at (c := true) rfl rfl (Mono.dep_at hdu (i := 6) (d := 47) rfl rfl rfl) rfl) ?_
      have z59 : a.eval (.tmp 59) = .bool false := Mono.dep_at hdu (i := 18) (d := 59) rfl rfl rfl
      simp [Act.eval] at z59
      exact Mono.ok_val (.bool true) (by simp [execOp, z59, go_sem, c1, c2, df0, df1, dt0, b9]) rfl
    · intro a u hbu hsu hdu
      have c1 := (hbu.cell (p := ⟨S, 1, none⟩) lS).trans c1; have c2 := (hbu.cell (p := ⟨S, 2, none⟩) lS).trans c2; have df0 := (hbu.cell (p := ⟨w.heap.size, 0, none⟩) lf).trans df0; have df1 := (hbu.cell (p := ⟨w.heap.size, 1, none⟩) lf).trans df1; have dt0 := (hbu.cell (p := ⟨w1.heap.size, 0, none⟩) lt).trans dt0
      refine Mono.if_want rfl ?_
      have z47 : a.eval (.tmp 47) = .bool true := Mono.dep_at hdu (i := 6) (d := 47) rfl rfl rfl
      simp [Act.eval] at z47
      have z60 : a.eval (.tmp 60) = .bool true := Mono.dep_at hdu (i := 19) (d := 60) rfl rfl rfl
      simp [Act.eval] at z60
      exact Mono.ok_val (.bool true) (by simp [execOp, z47, z60, go_sem, c1, c2, df0, df1, dt0, b9]) rfl
  intro u hu
  simp only [Mono.Fin]
  rintro _ rfl _ rfl _ rfl _ rfl _ rfl _ rfl _ rfl _ rfl _ rfl _ rfl _ rfl _ rfl _ rfl _ rfl _ rfl _ rfl _ rfl _ rfl _ rfl _ rfl _ rfl
  simp [Act.put]
  have hb5 := hu
  go_upto_region 6 with fail
  obtain ⟨w5, rfl⟩ : ∃ w5, w5 = u := ⟨_, rfl⟩
  have hu5 := hu3.trans (hb5.mono hu3.size)
  have hS5 := hS4.ext hb5
  have lS := hS5.lt
  have HO5 := Lib.hid (H.out.list.below hu5)
  clear c1 c2
  have c1 := hS5.cell 1
  simp at c1
  refine MonoA.wp_region_A [0] 11 73 [some 62, some 63, some 64, some 65, some 66, some 67, some 68, some 69, some 70, some 71, some 72, some 73, some 74, some 75, none] [.val (.pointer (some ⟨S, 0, none⟩)), .val (.pointer (some ⟨S, 0, none⟩)), .val (.pointer (some ⟨S, 0, none⟩)), .val (.pointer (some ⟨S, 1, none⟩)), .val (.slice pl m cl), .val (.agg #[.int .i64 fh, .int .i64 fp]), .val (.agg #[.int .i64 th, .int .i64 tp]), .val (.slice p q c), .val (.agg (rowF ⟨fh, fp, th, tp, xs, false⟩ (.slice p q c)).toArray), .prp (frameP w5.heap.size ⟨fh, fp, th, tp, xs, false⟩), .prp (sliceP w5.heap.size ⟨fh, fp, th, tp, xs, false⟩), .prp (Mono.anyV), .val (.pointer (some ⟨S, 0, none⟩)), .val (.pointer (some ⟨S, 1, none⟩)), .prp (Mono.anyV)] (Mid X w5 S 61 #[.int .i64 hosts, .slice pl m cl, .map (some b)] (.slice pl m cl) zs ⟨fh, fp, th, tp, xs, false⟩) (Fin X w5 S 61 #[.int .i64 hosts, .slice pl m cl, .map (some b)] (.slice pl m cl) zs ⟨fh, fp, th, tp, xs, false⟩) (by kernel_rfl) (by kernel_rfl) (by kernel_rfl) (of_decide_eq_true (by kernel_rfl)) rfl rfl rfl rfl (by kernel_rfl) (by kernel_rfl) _ _ rfl rfl ?_ ?_ ?_ ?_ ?_
  · simp only [MonoA.HeadGoals, List.take_succ_cons, List.take_zero, and_true]
    refine ⟨?_, ?_, ?_, ?_, ?_, ?_, ?_, ?_, ?_, ?_, ?_⟩
    · rw [if_pos (by decide)]
      intro a u hsu hdu
      have z0 : a.eval (.tmp 0) = _ := hsu 0 (by decide)
      simp [Act.eval] at z0
      exact ⟨_, rfl, MonoA.float_val (by simp [execOp, z0, go_sem])⟩
    · rw [if_neg (by decide)]
      intro a u hbu hsu hdu
      have c1 := (hbu.cell (p := ⟨S, 1, none⟩) lS).trans c1
      exact Mono.ok_move (.tmp 0) rfl (hsu 0 (by decide))
    · rw [if_neg (by decide)]
      intro a u hbu hsu hdu
      have c1 := (hbu.cell (p := ⟨S, 1, none⟩) lS).trans c1
      have z63 : a.eval (.tmp 63) = .pointer (some ⟨S, 0, none⟩) := Mono.dep_at hdu (i := 1) (d := 63) rfl rfl rfl
      simp [Act.eval] at z63
      exact Mono.ok_val (.pointer (some ⟨S, 0, none⟩)) (by simp [execOp, z63, go_sem, c1]) rfl
    · rw [if_neg (by decide)]
      intro a u hbu hsu hdu
      have c1 := (hbu.cell (p := ⟨S, 1, none⟩) lS).trans c1
      have z64 : a.eval (.tmp 64) = .pointer (some ⟨S, 0, none⟩) := Mono.dep_at hdu (i := 2) (d := 64) rfl rfl rfl
      simp [Act.eval] at z64
      exact Mono.ok_val (.pointer (some ⟨S, 1, none⟩)) (by simp [execOp, z64, go_sem, c1]) rfl
    · rw [if_neg (by decide)]
      intro a u hbu hsu hdu
      have c1 := (hbu.cell (p := ⟨S, 1, none⟩) lS).trans c1
      have z65 : a.eval (.tmp 65) = .pointer (some ⟨S, 1, none⟩) := Mono.dep_at hdu (i := 3) (d := 65) rfl rfl rfl
      simp [Act.eval] at z65
      exact Mono.ok_val (.slice pl m cl) (by simp [execOp, z65, go_sem, c1]) rfl
    · rw [if_neg (by decide)]
      intro a u hbu hsu hdu
      have c1 := (hbu.cell (p := ⟨S, 1, none⟩) lS).trans c1
      exact Mono.ok_load 30 (.tmp 5) rfl _ _ (hsu 5 (by decide)) (run_addr (hatf3.ext (hb5.trans (hbu.mono hb5.size)))) rfl
    · rw [if_neg (by decide)]
      intro a u hbu hsu hdu
      have c1 := (hbu.cell (p := ⟨S, 1, none⟩) lS).trans c1
      exact Mono.ok_load 30 (.tmp 6) rfl _ _ (hsu 6 (by decide)) (run_addr (hatt3.ext (hb5.trans (hbu.mono hb5.size)))) rfl
    · rw [if_neg (by decide)]
      intro a u hbu hsu hdu
      have c1 := (hbu.cell (p := ⟨S, 1, none⟩) lS).trans c1
      exact Mono.ok_move (.tmp 3) rfl (hsu 3 (by decide))
    · rw [if_neg (by decide)]
      intro a u hbu hsu hdu
      have c1 := (hbu.cell (p := ⟨S, 1, none⟩) lS).trans c1
      have z67 : a.eval (.tmp 67) = .agg #[.int .i64 fh, .int .i64 fp] := Mono.dep_at hdu (i := 5) (d := 67) rfl rfl rfl
      simp [Act.eval] at z67
      have z68 : a.eval (.tmp 68) = .agg #[.int .i64 th, .int .i64 tp] := Mono.dep_at hdu (i := 6) (d := 68) rfl rfl rfl
      simp [Act.eval] at z68
      have z69 : a.eval (.tmp 69) = .slice p q c := Mono.dep_at hdu (i := 7) (d := 69) rfl rfl rfl
      simp [Act.eval] at z69
      exact Mono.ok_build 35 _ rfl #[(0, .agg #[.int .i64 fh, .int .i64 fp]), (1, .agg #[.int .i64 th, .int .i64 tp]), (2, .slice p q c)] (by simp [z67, z68, z69, Act.eval]) (.agg (rowF ⟨fh, fp, th, tp, xs, false⟩ (.slice p q c)).toArray) (by kernel_rfl) rfl
    · rw [if_neg (by decide)]
      intro a u hbu hsu hdu
      have c1 := (hbu.cell (p := ⟨S, 1, none⟩) lS).trans c1
      have z70 : a.eval (.tmp 70) = .agg (rowF ⟨fh, fp, th, tp, xs, false⟩ (.slice p q c)).toArray := Mono.dep_at hdu (i := 8) (d := 70) rfl rfl rfl
      simp [Act.eval] at z70
      exact Mono.ok_call 23 _ _ rfl #[.agg (rowF ⟨fh, fp, th, tp, xs, false⟩ (.slice p q c)).toArray] (by simp [execOp, z70, go_sem]) ((PC.out u (hu5.trans (hbu.mono hu5.size))).mono (fun e x ⟨d, h1, h2, h3⟩ => ⟨_, h1, h3, d, rfl, h2.mono hbu.size⟩))
    · rw [if_neg (by decide)]
      intro a u hbu hsu hdu
      have c1 := (hbu.cell (p := ⟨S, 1, none⟩) lS).trans c1
      obtain ⟨d1, e1, hd1⟩ : (frameP w5.heap.size ⟨fh, fp, th, tp, xs, false⟩).R (a.eval (.tmp 71)) u := Mono.dep_at hdu (i := 9) (d := 71) rfl rfl rfl
      have hbz := (Below.refl u.heap.size u).alloc (Nat.le_refl _) (.cells (rowF ⟨fh, fp, th, tp, xs, false⟩ d1).toArray 35)
      exact Mem.wp_build 44 1 (.tmp 71) rfl _ _ _ e1 (buildF ⟨fh, fp, th, tp, xs, false⟩ d1 u) ⟨_, rfl, hbz, _, d1, rfl, At.new u 35 _, hd1.below hbz⟩
  · intro a u hbu hsu hdu
    have c1 := (hbu.cell (p := ⟨S, 1, none⟩) lS).trans c1
    have z66 : a.eval (.tmp 66) = .slice pl m cl := Mono.dep_at hdu (i := 4) (d := 66) rfl rfl rfl
    obtain ⟨g0, d0, e0, hat0, hr0⟩ : (sliceP w5.heap.size ⟨fh, fp, th, tp, xs, false⟩).R (a.eval (.tmp 72)) u := Mono.dep_at hdu (i := 10) (d := 72) rfl rfl rfl
    obtain ⟨v0, x0, hrun0, hm0⟩ := mid_append _ HO5.out hS5 (by decide) hbu hat0 hr0 HZ
    exact wp_appendV 44 (.tmp 66) (.tmp 72) rfl _ _ _ _ z66 e0 hrun0 ⟨_, rfl, hm0⟩
  · simp only [MonoA.FloatGoals, List.drop_succ_cons, List.drop_zero, List.dropLast_cons_cons, List.dropLast_singleton, and_true]
    refine ⟨?_, ?_⟩
    · intro a u hsu hdu
      have z62 : a.eval (.tmp 62) = .pointer (some ⟨S, 0, none⟩) := Mono.dep_at hdu (i := 0) (d := 62) rfl rfl rfl
      simp [Act.eval] at z62
      exact ⟨_, rfl, MonoA.float_val (by simp [execOp, z62, go_sem])⟩
    · intro a u hsu hdu
      have z74 : a.eval (.tmp 74) = .pointer (some ⟨S, 0, none⟩) := Mono.dep_at hdu (i := 12) (d := 74) rfl rfl rfl
      simp [Act.eval] at z74
      exact ⟨_, rfl, MonoA.float_val (by simp [execOp, z74, go_sem])⟩
  · intro a u v hmid hv hsu hdu
    have zp : a.eval (.tmp 75) = .pointer (some ⟨S, 1, none⟩) := Mono.dep_at hdu (i := 13) (d := 75) rfl rfl rfl
    exact wp_storeC 44 (.tmp 75) (.tmp 73) rfl rfl S 1 61 _ _ v zp hv hmid.row (by show (1 : Nat) < 3; decide) (by kernel_rfl) hmid.one rfl (fun y hat hg => ⟨undef, rfl, fin_store hmid hg hat⟩)
  intro v x hfin us
  obtain ⟨hn, hbx⟩ := Fin.net (H.out.below hu5) hfin HNO.out HFO.out
  have hN := hn.mono (more_since hu5.size)
  have hB := (ButX.ofBelow (X := X) hu5).trans (hbx.mono more_self)
  clear hfin hn hbx
  simp [Act.put, MonoU.pick]
  go_wp2_with fail
  go_ret
  exact ⟨rfl, hN, hB⟩
end Go.Proofs.Ytmdhpjbahenbhaa.Net
