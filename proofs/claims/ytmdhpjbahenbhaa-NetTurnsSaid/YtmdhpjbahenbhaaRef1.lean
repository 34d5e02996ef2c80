/-
  Contracts of the reference's net: host, own, SameFrame, Twin.
-/
import Derived.Test.YtmdhpjbahenbhaaRnet0
namespace Go.Proofs.Ytmdhpjbahenbhaa.Net
open Go.RowKit Mem Cells Ops Go.Maps
set_option linter.unusedVariables false
set_option linter.unusedSimpArgs false

set_option maxRecDepth 100000 in
theorem rHost (S : Nat) (hosts h : Int) (ds : Array Value) (w : World) (hat : At w S 49 ds) (h0 : ds[0]? = some (.int .i64 hosts)) : Calls Try.prog 36 #[.pointer (some ⟨S, 0, none⟩), .int .i64 h] w fun e w' => e = .returned (.bool (hostB hosts h)) ∧ w' = w := by
  have c0 := hat.cell 0
  rw [h0] at c0
  clear hat h0
  by_cases h1 : 0 ≤ h
  · by_cases h2 : h < hosts
    · have e : hostB hosts h = true := decide_eq_true ⟨h1, h2⟩
      rw [e]
      go_enter Try.func36, Try.ntmps36
      go_wp2_with fail
      go_ret
      exact ⟨rfl, rfl⟩
    · have e : hostB hosts h = false := decide_eq_false (fun h => h2 h.2)
      rw [e]
      go_enter Try.func36, Try.ntmps36
      go_wp2_with fail
      go_ret
      exact ⟨rfl, rfl⟩
  · have e : hostB hosts h = false := decide_eq_false (fun h => h1 h.1)
    rw [e]
    go_enter Try.func36, Try.ntmps36
    go_wp2_with fail
    go_ret
    exact ⟨rfl, rfl⟩
set_option maxRecDepth 100000 in
set_option maxHeartbeats 800000 in
theorem ownF (f : F) (d : Value) (w : World) (hr : Reads .u8 w d f.bytes) (hl : f.bytes.length ≤ 4096) :
    Calls Try.prog 37 #[.agg (rowF f d).toArray] w fun e w' => ∃ d', e = .returned (.agg (rowF f d').toArray) ∧ Row .u8 5 w.heap.size w' d' f.bytes ∧ Below w.heap.size w w' := by
  have HR := Lib.hid hr
  have HM1 := Lib.hid (show ([] : List Int).length + f.bytes.length ≤ maxLen by simp [maxLen]; omega)
  have HM2 := Lib.hid (show (([] : List Int).length + f.bytes.length) * 1 ≤ 140737488355328 by simp; omega)
  obtain ⟨p, c, rfl, _⟩ := hr
  obtain ⟨n, hn⟩ : ∃ n, f.bytes.length = n := ⟨_, rfl⟩
  have HN := Lib.hid hn
  rw [hn] at HR ⊢
  clear hn hl
  go_enter Try.func37, Try.ntmps37
  go_wp2_with (first
    | ((with_reducible refine wpl_boxAt rfl 35 (.tmp 0) rfl (rowF f (.slice p n c)).toArray ?_ ?_); rfl; go_must (intro w1 hat1 hb1 hs1))
    | ((with_reducible refine wpl_allocAt rfl 35 rfl zero35 (by kernel_rfl) ?_); go_must (intro w2 hat2 hb2 hs2; rw [hs1] at hat2; have hatb := hat1.ext hb2; have hu2 := hb1.trans (hb2.mono hb1.size); have c4 := hatb.cell 4; simp [rowF] at c4; clear hs2 hat1))
    | ((with_reducible refine wpl_empty rfl 31 5 rfl .u8 (fun _ => by kernel_rfl) ?_); go_must (intro w3 hr3 hb3 hs3; have HS3 := Lib.hid hs3; clear hs3; have HR3 := Lib.hid hr3; have hatc := hatb.ext hb3; have hat3 := hat2.ext hb3; have hu3 := hu2.trans (hb3.mono hu2.size); have c4' := hatc.cell 4; simp [rowF] at c4'; clear hr3 c4 hatb hat2; have c4 := c4'; clear c4'; have HB3 := Lib.hid hb3; clear hb3))
    | (at_builtin; go_must (have hsr := HR.out.below hu3; have hub := HB3.out.size; obtain ⟨i0, hi, hz0, hz1, hz2⟩ := info_parts info5; refine wpl_append rfl (.tmp 3) (.tmp 5) 31 rfl .u8 _ 5 1 i0 (.int .u8 0) Try.underlying31 hi hz0 hz1 hz2 rfl _ _ [] f.bytes rfl rfl HR3.out hsr HM1.out HM2.out hub ?_; clear hi hz0 hz1 hz2 hsr hub; intro v4 w4 hr4 hg4; rw [List.nil_append] at hr4; have hB4 := HB3.out.grown hg4 HB3.out.size (fun q e => (HR3.out.lt q e).1); have hb4 := hu2.trans (hB4.mono hu2.size); have hg4' : w3.grownBy w4 (some w2.heap.size) := hg4; have hat4 := hat3.grown hg4' (fun e => own_ne HR3.out hat3 (by decide) (by rw [e]; rfl)); have hatd := hatc.grown hg4' (fun e => own_ne HR3.out hatc (by decide) (by rw [e]; rfl)); obtain ⟨p4, k4, hv4, _⟩ := id hr4.reads; rw [HN.out] at hv4; subst hv4; have HR4 := Lib.hid (Row.mono hr4 hu2.size); clear hB4 hg4 hg4' hr4 hat3 hatc c4 hu3))
    | ((with_reducible refine wpl_storeC rfl 31 (.tmp 7) (.tmp 6) rfl rfl w.heap.size 4 35 (rowF f (.slice p n c)).toArray (rowF f (.slice p4 n k4)).toArray (.slice p4 n k4) ?_ ?_ hatd ?_ (by kernel_rfl) ?_ ?_ ?_); rfl; rfl; exact (show (4 : Nat) < 6 by decide); rfl; rfl; go_must (intro w5 hate hg5; have hat5 := hat4.grown hg5 (by omega); have hu5 := below_grown hb4 hg5 hb4.size (Nat.le_refl _); have hr5 := Lib.hid (HR4.out.kept hg5 (.inr (own_ne HR4.out hatd (by decide)))); have H5 := Lib.hid (own_ne hr5.out hat5 (by decide))))
    | ((with_reducible refine wpl_loadAt rfl 35 (.tmp 1) rfl w.heap.size 35 (rowF f (.slice p4 n k4)).toArray hate _ Try.underlying35 rfl (by kernel_rfl) ?_ ?_); rfl)
    | ((with_reducible refine wpl_storeR rfl 35 (.tmp 2) (.tmp 8) rfl rfl (w.heap.size + 1) 35 zero35 (rowF f (.slice p4 n k4)).toArray ?_ ?_ hat5 (by kernel_rfl) ?_ ?_ ?_); rfl; rfl; rfl; (simp [rowF, Value.oneCell']); go_must (intro w6 hat6 hg6; have hu6 := below_grown hu5 hg6 hu5.size (by omega); have hr6 := hr5.out.kept hg6 (.inr H5.out))))
  exact end_cell (fn := Try.f37) (p := 2) (ty := 35) (by kernel_rfl) rfl hat6 Try.underlying35 rfl (by kernel_rfl) rfl ⟨_, rfl, hr6, hu6⟩
theorem string9 {w : World} {v : Value} {xs : List Int} (hr : Reads .u8 w v xs) : (convert 31 9 v).run Try.prog w = .ok (.string (strOfNums xs)) w := run_string 31 9 5 Try.underlying31 Try.underlying5 Try.underlying9 hr
set_option maxRecDepth 100000 in
set_option maxHeartbeats 800000 in
/-- A frame and the same. -/
theorem sameSelf (f : F) (d e : Value) (w : World) (hd : Reads .u8 w d f.bytes) (he : Reads .u8 w e f.bytes) :
    Calls Try.prog 28 #[.agg (rowF f d).toArray, .agg (rowF f e).toArray] w fun e w' => e = .returned (.bool true) ∧ Below w.heap.size w w' := by
  have HD := Lib.hid hd
  have HE := Lib.hid he
  obtain ⟨pd, cd, rfl, _⟩ := hd
  obtain ⟨pe, ce, rfl, _⟩ := he
  obtain ⟨n, hn⟩ : ∃ n, f.bytes.length = n := ⟨_, rfl⟩
  obtain ⟨xs, hxs⟩ : ∃ xs, f.bytes = xs := ⟨_, rfl⟩
  rw [hn, hxs] at HD HE
  rw [hn]
  clear hn hxs
  go_enter Try.func28, Try.ntmps28
  go_wp2_with (first
    | ((with_reducible refine wpl_boxAt rfl 35 (.tmp 0) rfl (rowF f (.slice pd n cd)).toArray ?_ ?_); rfl; go_must (intro w1 hat1 hb1 hs1; clear hs1))
    | ((with_reducible refine wpl_boxAt rfl 35 (.tmp 1) rfl (rowF f (.slice pe n ce)).toArray ?_ ?_); rfl; go_must (intro w2 hat2 hb2 hs2; have hata := hat1.ext hb2; have hu2 := hb1.trans (hb2.mono hb1.size); have SD := string9 (HD.out.below hu2); have SE := string9 (HE.out.below hu2); have R1 := Lib.hid (range_at hata); have R2 := Lib.hid (range_at hat2); have a0 := hata.cell 0; have a1 := hata.cell 1; have a2 := hata.cell 2; have a3 := hata.cell 3; have a4 := hata.cell 4; have a5 := hata.cell 5; have b0 := hat2.cell 0; have b1 := hat2.cell 1; have b2 := hat2.cell 2; have b3 := hat2.cell 3; have b4 := hat2.cell 4; have b5 := hat2.cell 5; simp [rowF] at a0 a1 a2 a3 a4 a5 b0 b1 b2 b3 b4 b5; clear hs2 hat1 hb1 hb2)))
  go_ret
  exact ⟨by simp, hu2⟩
set_option maxRecDepth 100000 in
theorem rTwinNone {X : Nat → Prop} {w : World} {S : Nat} {hosts : Int} {fs : List F} {cut : Int → Int → Int → Bool} (h : RNet X w S hosts fs cut) (k : Int) (hk : inB fs.length k = false) :
    Calls Try.prog 29 #[.pointer (some ⟨S, 0, none⟩), .int .i64 k] w fun e w' => e = .returned (.int .i64 8) ∧ w' = w := by
  obtain ⟨zs, p, m, c, ds, h⟩ := h
  have hm1 := h.ok.1
  have hfl := h.flen
  rw [hfl] at hm1 hk
  have c1 := h.row.cell 1
  rw [h.h1] at c1
  have hk' : k < 0 ∨ (0 ≤ k ∧ (m : Int) ≤ k) := by simp [inB] at hk; omega
  clear h hfl hk
  rcases hk' with h1 | ⟨h1, h2⟩
  · go_enter Try.func29, Try.ntmps29
    go_wp2_with fail
    go_ret
    exact ⟨rfl, rfl⟩
  · go_enter Try.func29, Try.ntmps29
    go_wp2_with fail
    go_ret
    exact ⟨rfl, rfl⟩
set_option maxRecDepth 100000 in
theorem rTwinFull {X : Nat → Prop} {w : World} {S : Nat} {hosts : Int} {fs : List F} {cut : Int → Int → Int → Bool} (h : RNet X w S hosts fs cut) (k : Int) (hk : inB fs.length k = true) (hf : 1024 ≤ fs.length) :
    Calls Try.prog 29 #[.pointer (some ⟨S, 0, none⟩), .int .i64 k] w fun e w' => e = .returned (.int .i64 10) ∧ w' = w := by
  obtain ⟨zs, p, m, c, ds, h⟩ := h
  have hm1 := h.ok.1
  have hfl := h.flen
  rw [hfl] at hm1 hk hf
  have c1 := h.row.cell 1
  rw [h.h1] at c1
  obtain ⟨h1, h2⟩ : 0 ≤ k ∧ k < (m : Int) := by simpa [inB] using hk
  have h3 : (1024 : Int) ≤ m := by omega
  clear h hfl hk hf
  go_enter Try.func29, Try.ntmps29
  go_wp2_with fail
  go_ret
  exact ⟨rfl, rfl⟩
set_option maxRecDepth 100000 in
set_option maxHeartbeats 1600000 in
theorem rTwinOk {X : Nat → Prop} {w : World} {S : Nat} {hosts : Int} {fs : List F} {cut : Int → Int → Int → Bool} (h : RNet X w S hosts fs cut) (k : Nat) (f : F) (hz : fs[k]? = some f) (hf : fs.length < 1024) :
    Calls Try.prog 29 #[.pointer (some ⟨S, 0, none⟩), .int .i64 k] w fun e w' => e = .returned (.int .i64 0) ∧ RNet (more X w w') w' S hosts (fs ++ [f]) cut ∧ ButX X w w' := by
  have hk : k < fs.length := (List.getElem?_eq_some_iff.1 hz).1
  obtain ⟨zs, p, m, c, ds, h⟩ := h
  have hm1 := h.ok.1
  rw [h.flen] at hk hm1 hf
  obtain ⟨⟨f', d⟩, hz1, hz2⟩ := h.get k hk
  obtain rfl : f' = f := by rw [hz2] at hz; exact Option.some.inj hz
  obtain ⟨g, c', ec, hgl, hXg, _, hra, h8⟩ := h.list.elem k _ hz1
  rw [h.len] at ec
  cases ec
  obtain ⟨pd, cd, rfl, _⟩ : ∃ pd cd, d = .slice pd f'.bytes.length cd ∧ True := by obtain ⟨pd, cd, e, _⟩ := h8.1.reads; exact ⟨pd, cd, e, trivial⟩
  have HFO := Lib.hid (h.ok.2 f' (List.mem_of_getElem? hz2))
  have PC := Lib.hid (fun u (hu : Below w.heap.size w u) => ownF f' (.slice pd f'.bytes.length cd) u (h8.1.reads.below hu) (by have := HFO.out.1; omega))
  have HRA := Lib.hid (fun u (hu : Below w.heap.size w u) => range_below (b := g) (off := k * 6) hra hu hgl)
  obtain ⟨q, hq⟩ : ∃ q, f'.bytes.length = q := ⟨_, rfl⟩
  simp only at HRA
  rw [hq] at PC HRA
  have H := Lib.hid h
  have hS : At w S 49 ds := h.row
  have c1 := hS.cell 1
  rw [h.h1] at c1
  have lS := hS.lt
  have HO := Lib.hid h.list
  have HZ : zs.length ≤ 99999 := by have := h.len; omega
  have HNO := Lib.hid (show m < 1024 from hf)
  have hs2 : ds.size = 130 := h.size
  have hkm : (k : Int) < m := by omega
  have hkm2 : decide ((m : Int) ≤ k) = false := decide_eq_false (by omega)
  have hm63 : m ≤ 1023 := by omega
  have HDS := Lib.hid hs2
  clear h hra h8 hz1 hz2 hgl hq hz hs2
  go_enter Try.func29, Try.ntmps29
  go_upto_region 5 with fail
  obtain ⟨w0, rfl⟩ : ∃ w0, w0 = w := ⟨_, rfl⟩
  have hu2 := Below.refl w0.heap.size w0
  refine MonoA.wp_region_A [0] 14 36 [some 22, some 23, some 24, some 25, some 26, some 27, some 28, some 29, some 30, some 31, some 32, some 33, some 34, some 35, some 36, some 37, some 38, none] [.val (.pointer (some ⟨S, 0, none⟩)), .val (.pointer (some ⟨S, 0, none⟩)), .val (.pointer (some ⟨S, 0, none⟩)), .val (.pointer (some ⟨S, 1, none⟩)), .val (.slice (some ⟨g, 0, none⟩) m c), .val (.pointer (some ⟨S, 0, none⟩)), .val (.pointer (some ⟨S, 0, none⟩)), .val (.pointer (some ⟨S, 1, none⟩)), .val (.slice (some ⟨g, 0, none⟩) m c), .val (.int .i64 k), .val (.pointer (some ⟨g, k * 6, none⟩)), .val (.agg (rowF f' (.slice pd q cd)).toArray), .prp (frameP w0.heap.size f'), .prp (sliceP w0.heap.size f'), .prp (Mono.anyV), .val (.pointer (some ⟨S, 0, none⟩)), .val (.pointer (some ⟨S, 1, none⟩)), .prp (Mono.anyV)] (Mid X w0 S 49 ds (.slice (some ⟨g, 0, none⟩) m c) zs f') (Fin X w0 S 49 ds (.slice (some ⟨g, 0, none⟩) m c) zs f') (by kernel_rfl) (by kernel_rfl) (by kernel_rfl) (of_decide_eq_true (by kernel_rfl)) rfl rfl rfl rfl (by kernel_rfl) (by kernel_rfl) _ _ rfl rfl ?_ ?_ ?_ ?_ ?_
  · simp only [MonoA.HeadGoals, List.take_succ_cons, List.take_zero, and_true]
    refine ⟨?_, ?_, ?_, ?_, ?_, ?_, ?_, ?_, ?_, ?_, ?_, ?_, ?_, ?_⟩
    · rw [if_pos (by decide)]
      intro a u hsu hdu
      have z0 : a.eval (.tmp 0) = _ := hsu 0 (by decide)
      simp [Act.eval] at z0
      exact ⟨_, rfl, MonoA.float_val (by simp [execOp, z0, go_sem])⟩
    · rw [if_neg (by decide)]
      intro a u hbu hsu hdu
      have c1 := (hbu.cell (p := ⟨S, 1, none⟩) lS).trans c1
      exact Mono.ok_move (.tmp 0) rfl (hsu 0 (by decide))
    · rw [if_neg (by decide)]
      intro a u hbu hsu hdu
      have c1 := (hbu.cell (p := ⟨S, 1, none⟩) lS).trans c1
      have z23 : a.eval (.tmp 23) = .pointer (some ⟨S, 0, none⟩) := Mono.dep_at hdu (i := 1) (d := 23) rfl rfl rfl
      simp [Act.eval] at z23
      exact Mono.ok_val (.pointer (some ⟨S, 0, none⟩)) (by simp [execOp, z23, go_sem, c1, hkm]) rfl
    · rw [if_neg (by decide)]
      intro a u hbu hsu hdu
      have c1 := (hbu.cell (p := ⟨S, 1, none⟩) lS).trans c1
      have z24 : a.eval (.tmp 24) = .pointer (some ⟨S, 0, none⟩) := Mono.dep_at hdu (i := 2) (d := 24) rfl rfl rfl
      simp [Act.eval] at z24
      exact Mono.ok_val (.pointer (some ⟨S, 1, none⟩)) (by simp [execOp, z24, go_sem, c1, hkm]) rfl
    · rw [if_neg (by decide)]
      intro a u hbu hsu hdu
      have c1 := (hbu.cell (p := ⟨S, 1, none⟩) lS).trans c1
      have z25 : a.eval (.tmp 25) = .pointer (some ⟨S, 1, none⟩) := Mono.dep_at hdu (i := 3) (d := 25) rfl rfl rfl
      simp [Act.eval] at z25
      exact Mono.ok_val (.slice (some ⟨g, 0, none⟩) m c) (by simp [execOp, z25, go_sem, c1, hkm]) rfl
    · rw [if_neg (by decide)]
      intro a u hbu hsu hdu
      have c1 := (hbu.cell (p := ⟨S, 1, none⟩) lS).trans c1
      exact Mono.ok_move (.tmp 0) rfl (hsu 0 (by decide))
    · rw [if_neg (by decide)]
      intro a u hbu hsu hdu
      have c1 := (hbu.cell (p := ⟨S, 1, none⟩) lS).trans c1
      have z27 : a.eval (.tmp 27) = .pointer (some ⟨S, 0, none⟩) := Mono.dep_at hdu (i := 5) (d := 27) rfl rfl rfl
      simp [Act.eval] at z27
      exact Mono.ok_val (.pointer (some ⟨S, 0, none⟩)) (by simp [execOp, z27, go_sem, c1, hkm]) rfl
    · rw [if_neg (by decide)]
      intro a u hbu hsu hdu
      have c1 := (hbu.cell (p := ⟨S, 1, none⟩) lS).trans c1
      have z28 : a.eval (.tmp 28) = .pointer (some ⟨S, 0, none⟩) := Mono.dep_at hdu (i := 6) (d := 28) rfl rfl rfl
      simp [Act.eval] at z28
      exact Mono.ok_val (.pointer (some ⟨S, 1, none⟩)) (by simp [execOp, z28, go_sem, c1, hkm]) rfl
    · rw [if_neg (by decide)]
      intro a u hbu hsu hdu
      have c1 := (hbu.cell (p := ⟨S, 1, none⟩) lS).trans c1
      have z29 : a.eval (.tmp 29) = .pointer (some ⟨S, 1, none⟩) := Mono.dep_at hdu (i := 7) (d := 29) rfl rfl rfl
      simp [Act.eval] at z29
      exact Mono.ok_val (.slice (some ⟨g, 0, none⟩) m c) (by simp [execOp, z29, go_sem, c1, hkm]) rfl
    · rw [if_neg (by decide)]
      intro a u hbu hsu hdu
      have c1 := (hbu.cell (p := ⟨S, 1, none⟩) lS).trans c1
      exact Mono.ok_move (.tmp 1) rfl (hsu 1 (by decide))
    · rw [if_neg (by decide)]
      intro a u hbu hsu hdu
      have c1 := (hbu.cell (p := ⟨S, 1, none⟩) lS).trans c1
      have z30 : a.eval (.tmp 30) = .slice (some ⟨g, 0, none⟩) m c := Mono.dep_at hdu (i := 8) (d := 30) rfl rfl rfl
      simp [Act.eval] at z30
      have z31 : a.eval (.tmp 31) = .int .i64 k := Mono.dep_at hdu (i := 9) (d := 31) rfl rfl rfl
      simp [Act.eval] at z31
      exact Mono.ok_val (.pointer (some ⟨g, k * 6, none⟩)) (by simp [execOp, z30, z31, go_sem, c1, hkm]) rfl
    · rw [if_neg (by decide)]
      intro a u hbu hsu hdu
      have c1 := (hbu.cell (p := ⟨S, 1, none⟩) lS).trans c1
      have z32 : a.eval (.tmp 32) = .pointer (some ⟨g, k * 6, none⟩) := Mono.dep_at hdu (i := 10) (d := 32) rfl rfl rfl
      exact Mono.ok_load 35 (.tmp 32) rfl _ _ z32 (run_frame (HRA.out _ (hu2.trans hbu))) rfl
    · rw [if_neg (by decide)]
      intro a u hbu hsu hdu
      have c1 := (hbu.cell (p := ⟨S, 1, none⟩) lS).trans c1
      have z33 : a.eval (.tmp 33) = .agg (rowF f' (.slice pd q cd)).toArray := Mono.dep_at hdu (i := 11) (d := 33) rfl rfl rfl
      simp [Act.eval] at z33
      exact Mono.ok_call 37 _ _ rfl #[.agg (rowF f' (.slice pd q cd)).toArray] (by simp [execOp, z33, go_sem]) ((PC.out u (hu2.trans hbu)).mono (fun e x ⟨d, h1, h2, h3⟩ => ⟨_, h1, h3, d, rfl, h2.mono (Nat.le_trans (Nat.le_of_eq rfl) hbu.size)⟩))
    · rw [if_neg (by decide)]
      intro a u hbu hsu hdu
      have c1 := (hbu.cell (p := ⟨S, 1, none⟩) lS).trans c1
      obtain ⟨d1, e1, hd1⟩ : (frameP w0.heap.size f').R (a.eval (.tmp 34)) u := Mono.dep_at hdu (i := 12) (d := 34) rfl rfl rfl
      have hbz := (Below.refl u.heap.size u).alloc (Nat.le_refl _) (.cells (rowF f' d1).toArray 35)
      exact Mem.wp_build 44 1 (.tmp 34) rfl _ _ _ e1 (buildF f' d1 u) ⟨_, rfl, hbz, _, d1, rfl, At.new u 35 _, hd1.below hbz⟩
  · intro a u hbu hsu hdu
    have c1 := (hbu.cell (p := ⟨S, 1, none⟩) lS).trans c1
    have z26 : a.eval (.tmp 26) = .slice (some ⟨g, 0, none⟩) m c := Mono.dep_at hdu (i := 4) (d := 26) rfl rfl rfl
    obtain ⟨g0, d0, e0, hat0, hr0⟩ : (sliceP w0.heap.size f').R (a.eval (.tmp 35)) u := Mono.dep_at hdu (i := 13) (d := 35) rfl rfl rfl
    obtain ⟨v0, x0, hrun0, hm0⟩ := mid_append _ HO.out hS (by decide) hbu hat0 hr0 HZ
    exact wp_appendV 44 (.tmp 26) (.tmp 35) rfl _ _ _ _ z26 e0 hrun0 ⟨_, rfl, hm0⟩
  · simp only [MonoA.FloatGoals, List.drop_succ_cons, List.drop_zero, List.dropLast_cons_cons, List.dropLast_singleton, and_true]
    refine ⟨?_, ?_⟩
    · intro a u hsu hdu
      have z22 : a.eval (.tmp 22) = .pointer (some ⟨S, 0, none⟩) := Mono.dep_at hdu (i := 0) (d := 22) rfl rfl rfl
      simp [Act.eval] at z22
      exact ⟨_, rfl, MonoA.float_val (by simp [execOp, z22, go_sem])⟩
    · intro a u hsu hdu
      have z37 : a.eval (.tmp 37) = .pointer (some ⟨S, 0, none⟩) := Mono.dep_at hdu (i := 15) (d := 37) rfl rfl rfl
      simp [Act.eval] at z37
      exact ⟨_, rfl, MonoA.float_val (by simp [execOp, z37, go_sem])⟩
  · intro a u v hmid hv hsu hdu
    have zp : a.eval (.tmp 38) = .pointer (some ⟨S, 1, none⟩) := Mono.dep_at hdu (i := 16) (d := 38) rfl rfl rfl
    exact wp_storeC 44 (.tmp 38) (.tmp 36) rfl rfl S 1 49 _ _ v zp hv hmid.row (by rw [HDS.out]; decide) (by kernel_rfl) hmid.one rfl (fun y hat hg => ⟨undef, rfl, fin_store hmid hg hat⟩)
  intro v x hfin us
  obtain ⟨hn, hbx⟩ := Fin.rnet H.out hfin HNO.out HFO.out
  clear hfin
  simp [Act.put, MonoU.pick]
  go_wp2_with fail
  go_ret
  exact ⟨rfl, hn, hbx⟩
theorem rTwinX {X : Nat → Prop} {w : World} {S : Nat} {hosts : Int} {fs : List F} {cut : Int → Int → Int → Bool} (h : RNet X w S hosts fs cut) (k : Int) :
    Calls Try.prog 29 #[.pointer (some ⟨S, 0, none⟩), .int .i64 k] w fun e w' => e = .returned (.int .i64 (twinE fs k)) ∧ RNet (more X w w') w' S hosts (twinL fs k) cut ∧ ButX X w w' := by
  cases hk : inB fs.length k with
  | false =>
    have e1 : twinE fs k = 8 := by unfold twinE; rw [hk]; rfl
    have e2 : twinL fs k = fs := by unfold twinL; rw [e1]; rfl
    rw [e1, e2]
    exact (rTwinNone h k hk).mono fun e w' ⟨e1, e2⟩ => by subst e2; exact ⟨e1, h.mono more_self, ButX.refl _ _⟩
  | true =>
    by_cases hf : 1024 ≤ fs.length
    · have e1 : twinE fs k = 10 := by unfold twinE; rw [hk, if_pos rfl, if_pos hf]
      have e2 : twinL fs k = fs := by unfold twinL; rw [e1]; rfl
      rw [e1, e2]
      exact (rTwinFull h k hk hf).mono fun e w' ⟨e1, e2⟩ => by subst e2; exact ⟨e1, h.mono more_self, ButX.refl _ _⟩
    · have e1 : twinE fs k = 0 := by unfold twinE; rw [hk, if_pos rfl, if_neg hf]
      have hk' : 0 ≤ k ∧ k < fs.length := by simpa [inB] using hk
      obtain ⟨j, rfl⟩ : ∃ j : Nat, k = j := ⟨k.toNat, by omega⟩
      have hj : j < fs.length := by omega
      have e2 : twinL fs j = fs ++ [fs[j]] := by unfold twinL takeF; rw [e1, if_pos rfl, hk, if_pos rfl]; simp [hj]
      rw [e1, e2]
      exact rTwinOk h j _ (List.getElem?_eq_getElem hj) (by omega)
end Go.Proofs.Ytmdhpjbahenbhaa.Net
