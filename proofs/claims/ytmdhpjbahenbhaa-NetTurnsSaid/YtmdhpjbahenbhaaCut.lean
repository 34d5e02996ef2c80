/-
  Contracts: Cut, Twin.
-/
import Derived.Test.YtmdhpjbahenbhaaTake
namespace Go.Proofs.Ytmdhpjbahenbhaa.Net
open Go.RowKit Mem Cells Ops Go.Maps
set_option linter.unusedVariables false
set_option linter.unusedSimpArgs false

set_option maxRecDepth 100000 in
set_option maxHeartbeats 800000 in
theorem CutNil (f t q : Int) (d : Bool) (w : World) : Calls Try.prog 13 #[.pointer none, .int .i64 f, .int .i64 t, .int .i64 q, .bool d] w fun e w' => e = .returned (.int .i64 1) ∧ Below w.heap.size w w' := by
  go_enter Try.func13, Try.ntmps13
  go_wp2_with (go_at_call 21; go_must (refine (hostNil _ _).mono ?_; rintro e w3 ⟨rfl, hb3⟩; have hz := (Below.refl w.heap.size w).alloc (Nat.le_refl _) (.cells #[.int .i64 f, .int .i64 t] 3); have hu3 := hz.trans (hb3.mono hz.size)))
  go_ret
  exact ⟨rfl, hu3⟩
theorem cutArg_not (hosts f t q : Int) (h : cutArg hosts f t q = false) (b : Bool) (hb : (hostB hosts f && hostB hosts t) = b) : b = false ∨ (b = true ∧ pathB q = false) ∨ (b = true ∧ pathB q = true ∧ (f == t) = true) := by
  unfold cutArg at h
  rw [hb] at h
  revert h
  by_cases hc : f = t <;> cases b <;> cases pathB q <;> simp [hc]
theorem cutArg_iff (hosts f t q : Int) (h8 : hosts ≤ 8) (h : cutArg hosts f t q = true) : (hostB hosts f && hostB hosts t) = true ∧ pathB q = true ∧ (f == t) = false ∧ i64 f ∧ i64 t ∧ i64 q := by
  unfold cutArg at h
  simp only [Bool.and_eq_true, Bool.not_eq_true', decide_eq_false_iff_not] at h
  obtain ⟨⟨⟨h1, h2⟩, h3⟩, h5⟩ := h
  refine ⟨by rw [h1, h2]; rfl, h3, by simpa using h5, ?_⟩
  unfold hostB at h1 h2
  unfold pathB at h3
  simp only [decide_eq_true_eq] at h1 h2 h3
  exact ⟨⟨by omega, by omega⟩, ⟨by omega, by omega⟩, ⟨by omega, by omega⟩⟩
set_option maxRecDepth 100000 in
set_option maxHeartbeats 1600000 in
theorem CutBad {X : Nat → Prop} {w : World} {S : Nat} {hosts : Int} {fs : List F} {cut : Int → Int → Int → Bool} {n : Nat} (h : Net X w S hosts fs cut n) (f t q : Int) (d : Bool) (hbad : cutArg hosts f t q = false) :
    Calls Try.prog 13 #[.pointer (some ⟨S, 0, none⟩), .int .i64 f, .int .i64 t, .int .i64 q, .bool d] w fun e w' => e = .returned (.int .i64 1) ∧ Below w.heap.size w w' := by
  obtain ⟨zs, pl, m, cl, b, D, h⟩ := h
  have PH := Lib.hid (fun L u (hu : Below w.heap.size w u) h' => host f t hosts (.slice pl m cl) (.map (some b)) S L u (h.row.ext hu) h')
  obtain ⟨hb, hh⟩ : ∃ hb, (hostB hosts f && hostB hosts t) = hb := ⟨_, rfl⟩
  have hcase := cutArg_not hosts f t q hbad hb hh
  rw [hh] at PH
  clear hh h hbad
  rcases hcase with rfl | ⟨rfl, h1⟩ | ⟨rfl, h1, h2⟩
  all_goals
    go_enter Try.func13, Try.ntmps13
    go_wp2_with (first
      | (go_at_call 21; go_must (have hz := (Below.refl w.heap.size w).alloc (Nat.le_refl _) (.cells #[.int .i64 f, .int .i64 t] 3); refine (PH.out _ _ hz (At.new w 3 _)).mono ?_; clear hz; rintro e w3 ⟨rfl, hb3⟩; have hz := (Below.refl w.heap.size w).alloc (Nat.le_refl _) (.cells #[.int .i64 f, .int .i64 t] 3); have hu3 := hz.trans (hb3.mono hz.size); clear hz))
      | (go_at_call 22; go_must (refine (path _ _).mono ?_; rintro e w4 ⟨rfl, rfl⟩)))
    go_ret
    exact ⟨rfl, hu3⟩
set_option maxRecDepth 100000 in
set_option maxHeartbeats 1600000 in
theorem CutOk {X : Nat → Prop} {w : World} {S : Nat} {hosts : Int} {fs : List F} {cut : Int → Int → Int → Bool} {n : Nat} (h : Net X w S hosts fs cut n) (f t q : Int) (d : Bool) (hok : cutArg hosts f t q = true) (hn : n < 1000000) :
    Calls Try.prog 13 #[.pointer (some ⟨S, 0, none⟩), .int .i64 f, .int .i64 t, .int .i64 q, .bool d] w fun e w' => e = .returned (.int .i64 0) ∧ Net X w' S hosts fs (cutF cut f t q d) (n + 1) ∧ ButX X w w' := by
  obtain ⟨zs, pl, m, cl, b, D, h⟩ := h
  obtain ⟨hh, h1, h3, i1, i2, i3⟩ := cutArg_iff _ _ _ _ h.hosts.2 hok
  have PH := Lib.hid (fun L u (hu : Below w.heap.size w u) h' => host f t hosts (.slice pl m cl) (.map (some b)) S L u (h.row.ext hu) h')
  rw [hh] at PH
  have HK := Lib.hid (keyOf65 f t q i1 i2 i3)
  have HS := Lib.hid (h.says.put f t q i1 i2 i3 d)
  have HM := Lib.hid (fun u (hu : Below w.heap.size w u) => h.map.kept (grown_below none hu) (by simp))
  have HR := Lib.hid h.row
  have H := Lib.hid h
  clear hh h i1 i2 i3 hok
  go_enter Try.func13, Try.ntmps13
  go_wp2_with (first
    | (go_at_call 21; go_must (have hz := (Below.refl w.heap.size w).alloc (Nat.le_refl _) (.cells #[.int .i64 f, .int .i64 t] 3); refine (PH.out _ _ hz (At.new w 3 _)).mono ?_; clear hz; rintro e w3 ⟨rfl, hb3⟩; have hz := (Below.refl w.heap.size w).alloc (Nat.le_refl _) (.cells #[.int .i64 f, .int .i64 t] 3); have hu3 := hz.trans (hb3.mono hz.size); clear hz; have c2 := (HR.out.ext hu3).cell 2; simp at c2; have hown := HM.out _ hu3))
    | (go_at_call 22; go_must (refine (path _ _).mono ?_; rintro e w4 ⟨rfl, rfl⟩))
    | (at_mapUpdate; go_must (refine wpList_mapUpdate_own _ rfl _ _ _ 59 rfl 65 4 keyed65 Try.underlying59 (plainElem Try.prog 4) b n _ rfl hown (by unfold maxLen; omega) _ _ (keyR f t q) rfl rfl HK.out (bl d) [] (plainElem_bool Try.underlying4 d) ?_; intro u5 hown5 hg)))
  go_ret
  have hh := H.out.below hu3
  refine ⟨rfl, ⟨zs, pl, m, cl, b, _, ?_, hh.xS, hh.xb, hh.fst, hh.len, ?_, hown5, HS.out, hh.ok, by omega, hh.hosts⟩, (ButX.ofBelow hu3).trans ((ButX.ofGrown hg (fun q e => by cases e; exact hh.xb)).mono more_self)⟩
  · refine hh.row.grown hg (fun e => ?_)
    obtain ⟨es, clock, h5, _⟩ := hh.map
    rw [← e, show _ = _ from hh.row] at h5
    cases h5
  · have key : ∀ {B e k n : Nat} {v : Value} {xs : List Value}, w4.ownsRow B e k v n xs → v.ownBlock ≠ some b := by
      intro B e k n v xs ho hb
      obtain ⟨cur, hc⟩ := own_at ho hb
      obtain ⟨es, clock, h5, _⟩ := hh.map
      rw [show w4.heap[b]? = _ from hc] at h5
      cases h5
    exact hh.list.kept hg (.inr (key hh.list.row)) (fun z hz => .inr (key (hh.list.bytes z hz).1))
set_option maxRecDepth 100000 in
theorem TwinNil (k : Int) (w : World) : Calls Try.prog 15 #[.pointer none, .int .i64 k] w fun e w' => e = .returned (.int .i64 1) ∧ w' = w := by
  go_enter Try.func15, Try.ntmps15
  go_wp2_with (go_at_call 24; go_must (refine (faultNil _ _).mono ?_; rintro e w2 ⟨rfl, rfl⟩))
  go_ret
  exact ⟨rfl, rfl⟩
set_option maxRecDepth 100000 in
set_option maxHeartbeats 800000 in
theorem TwinNone {X : Nat → Prop} {w : World} {S : Nat} {hosts : Int} {fs : List F} {cut : Int → Int → Int → Bool} {n : Nat} (h : Net X w S hosts fs cut n) (k : Int) (hk : inB fs.length k = false) :
    Calls Try.prog 15 #[.pointer (some ⟨S, 0, none⟩), .int .i64 k] w fun e w' => e = .returned (.int .i64 8) ∧ w' = w := by
  obtain ⟨zs, p, m, c, b, D, h⟩ := h
  have hm1 := h.ok.1
  rw [h.flen] at hk hm1
  have PF := Lib.hid (by have := fault S m c p _ _ k w h.row hm1; rw [show faultE m k = 8 from by unfold faultE; rw [hk]; rfl] at this; exact this)
  clear h hm1 hk
  go_enter Try.func15, Try.ntmps15
  go_wp2_with (go_at_call 24; go_must (refine PF.out.mono ?_; rintro e w2 ⟨rfl, rfl⟩))
  go_ret
  exact ⟨rfl, rfl⟩
set_option maxRecDepth 100000 in
set_option maxHeartbeats 800000 in
theorem TwinFull {X : Nat → Prop} {w : World} {S : Nat} {hosts : Int} {fs : List F} {cut : Int → Int → Int → Bool} {n : Nat} (h : Net X w S hosts fs cut n) (k : Int) (hk : inB fs.length k = true) (hf : 1024 ≤ fs.length) :
    Calls Try.prog 15 #[.pointer (some ⟨S, 0, none⟩), .int .i64 k] w fun e w' => e = .returned (.int .i64 10) ∧ w' = w := by
  obtain ⟨zs, p, m, c, b, D, h⟩ := h
  have hm1 := h.ok.1
  rw [h.flen] at hk hm1 hf
  have PF := Lib.hid (by have := fault S m c p _ _ k w h.row hm1; rw [show faultE m k = 0 from by unfold faultE; rw [hk]; rfl] at this; exact this)
  have c1 := h.row.cell 1
  simp at c1
  clear h hm1 hk
  go_enter Try.func15, Try.ntmps15
  go_wp2_with (go_at_call 24; go_must (refine PF.out.mono ?_; rintro e w2 ⟨rfl, rfl⟩))
  go_ret
  exact ⟨rfl, rfl⟩
theorem run_frame {w : World} {g off : Nat} {f : F} {d : Value} (h : w.rangeAt g off (rowF f d)) : (Instr.loadAt 35 (.pointer (some ⟨g, off, none⟩))).run Try.prog w = .ok (.agg (rowF f d).toArray) w := by
  have hr := run_loadVar_mid (P := Try.prog) w g off 35 (rowF f d) _ h Try.underlying35 rfl (by kernel_rfl)
  simp only [Instr.loadAt, Instr.sureAddr, Sem.run_bind, Sem.run_pure, Result.andThen_ok, hr]
set_option maxRecDepth 100000 in
set_option maxHeartbeats 3200000 in
theorem TwinOk {X : Nat → Prop} {w : World} {S : Nat} {hosts : Int} {fs : List F} {cut : Int → Int → Int → Bool} {n : Nat} (h : Net X w S hosts fs cut n) (k : Nat) (hk : k < fs.length) (hf : fs.length < 1024) :
    Calls Try.prog 15 #[.pointer (some ⟨S, 0, none⟩), .int .i64 k] w fun e w' => e = .returned (.int .i64 0) ∧ (∃ f, fs[k]? = some f ∧ Net (more X w w') w' S hosts (fs ++ [f]) cut n) ∧ ButX X w w' := by
  obtain ⟨zs, p, m, c, b, D, h⟩ := h
  have hm1 := h.ok.1
  rw [h.flen] at hk hm1 hf
  have PF := Lib.hid (by have := fault S m c p _ _ k w h.row hm1; rw [show faultE m k = 0 from by unfold faultE inB; rw [decide_eq_true (by omega)]; rfl] at this; exact this)
  obtain ⟨⟨f, d⟩, hz1, hz2⟩ := h.get k hk
  obtain ⟨g, c', ec, hgl, hXg, _, hra, h8⟩ := h.list.elem k _ hz1
  rw [h.len] at ec
  cases ec
  obtain ⟨pd, cd, rfl, _⟩ : ∃ pd cd, d = .slice pd f.bytes.length cd ∧ True := by obtain ⟨pd, cd, e, _⟩ := h8.1.reads; exact ⟨pd, cd, e, trivial⟩
  have HFO := Lib.hid (h.ok.2 f (List.mem_of_getElem? hz2))
  have HF := Lib.hid hz2
  have PC := Lib.hid (fun u (hu : Below w.heap.size w u) => cloneF f (.slice pd f.bytes.length cd) u (h8.1.reads.below hu) (by have := HFO.out.1; omega))
  have HRA := Lib.hid (fun u (hu : Below w.heap.size w u) => range_below (b := g) (off := k * 6) hra hu hgl)
  obtain ⟨q, hq⟩ : ∃ q, f.bytes.length = q := ⟨_, rfl⟩
  simp only at HRA
  rw [hq] at PC HRA
  have H := Lib.hid h
  have hS : At w S 61 #[.int .i64 hosts, .slice (some ⟨g, 0, none⟩) m c, .map (some b)] := h.row
  have c1 := hS.cell 1
  simp at c1
  have lS := hS.lt
  have HO := Lib.hid h.list
  have HZ : zs.length ≤ 99999 := by have := h.len; omega
  have HNO := Lib.hid (show m < 1024 from hf)
  have hkm : (k : Int) < m := by omega
  have hm63 : m ≤ 9223372036854775807 := by omega
  clear h hra h8 hz1 hz2 hgl hq
  go_enter Try.func15, Try.ntmps15
  go_upto_region 5 with (go_at_call 24; go_must (refine PF.out.mono ?_; rintro e w2 ⟨rfl, rfl⟩))
  obtain ⟨w0, rfl⟩ : ∃ w0, w0 = w2 := ⟨_, rfl⟩
  have hu2 := Below.refl w0.heap.size w0
  refine MonoA.wp_region_A [0] 14 35 [some 21, some 22, some 23, some 24, some 25, some 26, some 27, some 28, some 29, some 30, some 31, some 32, some 33, some 34, some 35, some 36, some 37, none] [.val (.pointer (some ⟨S, 0, none⟩)), .val (.pointer (some ⟨S, 0, none⟩)), .val (.pointer (some ⟨S, 0, none⟩)), .val (.pointer (some ⟨S, 1, none⟩)), .val (.slice (some ⟨g, 0, none⟩) m c), .val (.pointer (some ⟨S, 0, none⟩)), .val (.pointer (some ⟨S, 0, none⟩)), .val (.pointer (some ⟨S, 1, none⟩)), .val (.slice (some ⟨g, 0, none⟩) m c), .val (.int .i64 k), .val (.pointer (some ⟨g, k * 6, none⟩)), .val (.agg (rowF f (.slice pd q cd)).toArray), .prp (frameP w0.heap.size f), .prp (sliceP w0.heap.size f), .prp (Mono.anyV), .val (.pointer (some ⟨S, 0, none⟩)), .val (.pointer (some ⟨S, 1, none⟩)), .prp (Mono.anyV)] (Mid X w0 S 61 #[.int .i64 hosts, .slice (some ⟨g, 0, none⟩) m c, .map (some b)] (.slice (some ⟨g, 0, none⟩) m c) zs f) (Fin X w0 S 61 #[.int .i64 hosts, .slice (some ⟨g, 0, none⟩) m c, .map (some b)] (.slice (some ⟨g, 0, none⟩) m c) zs f) (by kernel_rfl) (by kernel_rfl) (by kernel_rfl) (of_decide_eq_true (by kernel_rfl)) rfl rfl rfl rfl (by kernel_rfl) (by kernel_rfl) _ _ rfl rfl ?_ ?_ ?_ ?_ ?_
  · simp only [MonoA.HeadGoals, List.take_succ_cons, List.take_zero, and_true]
    refine ⟨?_, ?_, ?_, ?_, ?_, ?_, ?_, ?_, ?_, ?_, ?_, ?_, ?_, ?_⟩
    · rw [if_pos (by decide)]
      intro a u hsu hdu
      have z0 : a.eval (.tmp 0) = _ := hsu 0 (by decide)
      simp [Act.eval] at z0
      exact ⟨_, rfl, MonoA.float_val (by simp [execOp, z0, go_sem])⟩
    · rw [if_neg (by decide)]
      intro a u hbu hsu hdu
      have c1 := (hbu.cell (p := ⟨S, 1, none⟩) lS).trans c1
      exact Mono.ok_move (.tmp 0) rfl (hsu 0 (by decide))
    · rw [if_neg (by decide)]
      intro a u hbu hsu hdu
      have c1 := (hbu.cell (p := ⟨S, 1, none⟩) lS).trans c1
      have z22 : a.eval (.tmp 22) = .pointer (some ⟨S, 0, none⟩) := Mono.dep_at hdu (i := 1) (d := 22) rfl rfl rfl
      simp [Act.eval] at z22
      exact Mono.ok_val (.pointer (some ⟨S, 0, none⟩)) (by simp [execOp, z22, go_sem, c1, hkm]) rfl
    · rw [if_neg (by decide)]
      intro a u hbu hsu hdu
      have c1 := (hbu.cell (p := ⟨S, 1, none⟩) lS).trans c1
      have z23 : a.eval (.tmp 23) = .pointer (some ⟨S, 0, none⟩) := Mono.dep_at hdu (i := 2) (d := 23) rfl rfl rfl
      simp [Act.eval] at z23
      exact Mono.ok_val (.pointer (some ⟨S, 1, none⟩)) (by simp [execOp, z23, go_sem, c1, hkm]) rfl
    · rw [if_neg (by decide)]
      intro a u hbu hsu hdu
      have c1 := (hbu.cell (p := ⟨S, 1, none⟩) lS).trans c1
      have z24 : a.eval (.tmp 24) = .pointer (some ⟨S, 1, none⟩) := Mono.dep_at hdu (i := 3) (d := 24) rfl rfl rfl
      simp [Act.eval] at z24
      exact Mono.ok_val (.slice (some ⟨g, 0, none⟩) m c) (by simp [execOp, z24, go_sem, c1, hkm]) rfl
    · rw [if_neg (by decide)]
      intro a u hbu hsu hdu
      have c1 := (hbu.cell (p := ⟨S, 1, none⟩) lS).trans c1
      exact Mono.ok_move (.tmp 0) rfl (hsu 0 (by decide))
    · rw [if_neg (by decide)]
      intro a u hbu hsu hdu
      have c1 := (hbu.cell (p := ⟨S, 1, none⟩) lS).trans c1
      have z26 : a.eval (.tmp 26) = .pointer (some ⟨S, 0, none⟩) := Mono.dep_at hdu (i := 5) (d := 26) rfl rfl rfl
      simp [Act.eval] at z26
      exact Mono.ok_val (.pointer (some ⟨S, 0, none⟩)) (by simp [execOp, z26, go_sem, c1, hkm]) rfl
    · rw [if_neg (by decide)]
      intro a u hbu hsu hdu
      have c1 := (hbu.cell (p := ⟨S, 1, none⟩) lS).trans c1
      have z27 : a.eval (.tmp 27) = .pointer (some ⟨S, 0, none⟩) := Mono.dep_at hdu (i := 6) (d := 27) rfl rfl rfl
      simp [Act.eval] at z27
      exact Mono.ok_val (.pointer (some ⟨S, 1, none⟩)) (by simp [execOp, z27, go_sem, c1, hkm]) rfl
    · rw [if_neg (by decide)]
      intro a u hbu hsu hdu
      have c1 := (hbu.cell (p := ⟨S, 1, none⟩) lS).trans c1
      have z28 : a.eval (.tmp 28) = .pointer (some ⟨S, 1, none⟩) := Mono.dep_at hdu (i := 7) (d := 28) rfl rfl rfl
      simp [Act.eval] at z28
      exact Mono.ok_val (.slice (some ⟨g, 0, none⟩) m c) (by simp [execOp, z28, go_sem, c1, hkm]) rfl
    · rw [if_neg (by decide)]
      intro a u hbu hsu hdu
      have c1 := (hbu.cell (p := ⟨S, 1, none⟩) lS).trans c1
      exact Mono.ok_move (.tmp 1) rfl (hsu 1 (by decide))
    · rw [if_neg (by decide)]
      intro a u hbu hsu hdu
      have c1 := (hbu.cell (p := ⟨S, 1, none⟩) lS).trans c1
      have z29 : a.eval (.tmp 29) = .slice (some ⟨g, 0, none⟩) m c := Mono.dep_at hdu (i := 8) (d := 29) rfl rfl rfl
      simp [Act.eval] at z29
      have z30 : a.eval (.tmp 30) = .int .i64 k := Mono.dep_at hdu (i := 9) (d := 30) rfl rfl rfl
      simp [Act.eval] at z30
      exact Mono.ok_val (.pointer (some ⟨g, k * 6, none⟩)) (by simp [execOp, z29, z30, go_sem, c1, hkm]) rfl
    · rw [if_neg (by decide)]
      intro a u hbu hsu hdu
      have c1 := (hbu.cell (p := ⟨S, 1, none⟩) lS).trans c1
      have z31 : a.eval (.tmp 31) = .pointer (some ⟨g, k * 6, none⟩) := Mono.dep_at hdu (i := 10) (d := 31) rfl rfl rfl
      exact Mono.ok_load 35 (.tmp 31) rfl _ _ z31 (run_frame (HRA.out _ (hu2.trans hbu))) rfl
    · rw [if_neg (by decide)]
      intro a u hbu hsu hdu
      have c1 := (hbu.cell (p := ⟨S, 1, none⟩) lS).trans c1
      have z32 : a.eval (.tmp 32) = .agg (rowF f (.slice pd q cd)).toArray := Mono.dep_at hdu (i := 11) (d := 32) rfl rfl rfl
      simp [Act.eval] at z32
      exact Mono.ok_call 23 _ _ rfl #[.agg (rowF f (.slice pd q cd)).toArray] (by simp [execOp, z32, go_sem]) ((PC.out u (hu2.trans hbu)).mono (fun e x ⟨d, h1, h2, h3⟩ => ⟨_, h1, h3, d, rfl, h2.mono (Nat.le_trans (Nat.le_of_eq rfl) hbu.size)⟩))
    · rw [if_neg (by decide)]
      intro a u hbu hsu hdu
      have c1 := (hbu.cell (p := ⟨S, 1, none⟩) lS).trans c1
      obtain ⟨d1, e1, hd1⟩ : (frameP w0.heap.size f).R (a.eval (.tmp 33)) u := Mono.dep_at hdu (i := 12) (d := 33) rfl rfl rfl
      have hbz := (Below.refl u.heap.size u).alloc (Nat.le_refl _) (.cells (rowF f d1).toArray 35)
      exact Mem.wp_build 44 1 (.tmp 33) rfl _ _ _ e1 (buildF f d1 u) ⟨_, rfl, hbz, _, d1, rfl, At.new u 35 _, hd1.below hbz⟩
  · intro a u hbu hsu hdu
    have c1 := (hbu.cell (p := ⟨S, 1, none⟩) lS).trans c1
    have z25 : a.eval (.tmp 25) = .slice (some ⟨g, 0, none⟩) m c := Mono.dep_at hdu (i := 4) (d := 25) rfl rfl rfl
    obtain ⟨g0, d0, e0, hat0, hr0⟩ : (sliceP w0.heap.size f).R (a.eval (.tmp 34)) u := Mono.dep_at hdu (i := 13) (d := 34) rfl rfl rfl
    obtain ⟨v0, x0, hrun0, hm0⟩ := mid_append _ HO.out hS (by decide) hbu hat0 hr0 HZ
    exact wp_appendV 44 (.tmp 25) (.tmp 34) rfl _ _ _ _ z25 e0 hrun0 ⟨_, rfl, hm0⟩
  · simp only [MonoA.FloatGoals, List.drop_succ_cons, List.drop_zero, List.dropLast_cons_cons, List.dropLast_singleton, and_true]
    refine ⟨?_, ?_⟩
    · intro a u hsu hdu
      have z21 : a.eval (.tmp 21) = .pointer (some ⟨S, 0, none⟩) := Mono.dep_at hdu (i := 0) (d := 21) rfl rfl rfl
      simp [Act.eval] at z21
      exact ⟨_, rfl, MonoA.float_val (by simp [execOp, z21, go_sem])⟩
    · intro a u hsu hdu
      have z36 : a.eval (.tmp 36) = .pointer (some ⟨S, 0, none⟩) := Mono.dep_at hdu (i := 15) (d := 36) rfl rfl rfl
      simp [Act.eval] at z36
      exact ⟨_, rfl, MonoA.float_val (by simp [execOp, z36, go_sem])⟩
  · intro a u v hmid hv hsu hdu
    have zp : a.eval (.tmp 37) = .pointer (some ⟨S, 1, none⟩) := Mono.dep_at hdu (i := 16) (d := 37) rfl rfl rfl
    exact wp_storeC 44 (.tmp 37) (.tmp 35) rfl rfl S 1 61 _ _ v zp hv hmid.row (by show (1 : Nat) < 3; decide) (by kernel_rfl) hmid.one rfl (fun y hat hg => ⟨undef, rfl, fin_store hmid hg hat⟩)
  intro v x hfin us
  obtain ⟨hn, hbx⟩ := Fin.net H.out hfin HNO.out HFO.out
  clear hfin
  simp [Act.put, MonoU.pick]
  go_wp2_with fail
  go_ret
  exact ⟨rfl, ⟨f, HF.out, hn⟩, hbx⟩
end Go.Proofs.Ytmdhpjbahenbhaa.Net
