/-
  Contracts of the reference's net: Turn.
-/
import Derived.Test.YtmdhpjbahenbhaaRef3
namespace Go.Proofs.Ytmdhpjbahenbhaa.Net
open Go.RowKit Mem Cells Ops Go.Maps
set_option linter.unusedVariables false
set_option linter.unusedSimpArgs false

set_option maxRecDepth 100000 in
set_option maxHeartbeats 800000 in
theorem rTurnNone {X : Nat → Prop} {w : World} {S : Nat} {hosts : Int} {fs : List F} {cut : Int → Int → Int → Bool} (h : RNet X w S hosts fs cut) (k at_ b : Int) (hk : inB fs.length k = false) :
    Calls Try.prog 31 #[.pointer (some ⟨S, 0, none⟩), .int .i64 k, .int .i64 at_, .int .u8 b] w fun e w' => e = .returned (.int .i64 8) ∧ w' = w := by
  obtain ⟨zs, p, m, c, ds, h⟩ := h
  have hm1 := h.ok.1
  have hfl := h.flen
  rw [hfl] at hm1 hk
  have c1 := h.row.cell 1
  rw [h.h1] at c1
  have hk' : k < 0 ∨ (0 ≤ k ∧ (m : Int) ≤ k) := by simp [inB] at hk; omega
  clear h hfl hk
  rcases hk' with h1 | ⟨h1, h2⟩
  all_goals
    go_enter Try.func31, Try.ntmps31
    go_wp2_with fail
    go_ret
    exact ⟨rfl, rfl⟩
set_option maxRecDepth 100000 in
set_option maxHeartbeats 1600000 in
theorem rTurnNot {X : Nat → Prop} {w : World} {S : Nat} {hosts : Int} {fs : List F} {cut : Int → Int → Int → Bool} (h : RNet X w S hosts fs cut) (k : Nat) (hk : k < fs.length) (f : F) (hf : fs[k]? = some f) (at_ b r : Int) (hb : 0 ≤ b ∧ b ≤ 255) (hat : -9223372036854775808 ≤ at_ ∧ at_ ≤ 9223372036854775807)
    (hr : (r = 1 ∧ (b = 0 ∨ at_ < 0 ∨ f.bytes.length ≤ at_)) ∨ (r = 7 ∧ 1 ≤ b ∧ 0 ≤ at_ ∧ at_ < f.bytes.length ∧ f.turned = true)) :
    Calls Try.prog 31 #[.pointer (some ⟨S, 0, none⟩), .int .i64 k, .int .i64 at_, .int .u8 b] w fun e w' => e = .returned (.int .i64 r) ∧ w' = w := by
  obtain ⟨zs, p, m, c, ds, h⟩ := h
  have hm1 := h.ok.1
  rw [h.flen] at hk hm1
  obtain ⟨⟨f', d⟩, hz1, hz2⟩ := h.get k hk
  obtain rfl : f' = f := by rw [hz2] at hf; exact Option.some.inj hf
  have hfl : f'.bytes.length ≤ 4096 := (h.ok.2 f' (List.mem_of_getElem? hz2)).1
  obtain ⟨g, c', ec, hgl, hXg, _, hra, h8⟩ := h.list.elem k _ hz1
  rw [h.len] at ec
  cases ec
  obtain ⟨pd, cd, rfl, _⟩ : ∃ pd cd, d = .slice pd f'.bytes.length cd ∧ True := by obtain ⟨pd, cd, e, _⟩ := h8.1.reads; exact ⟨pd, cd, e, trivial⟩
  have c1 := h.row.cell 1
  rw [h.h1] at c1
  have c4 := hra 4 _ rfl
  have c5 := hra 5 _ rfl
  have hkm : (k : Int) < m := by omega
  have hkm2 : decide ((m : Int) ≤ k) = false := decide_eq_false (by omega)
  have hm63 : m ≤ 1024 := by omega
  obtain ⟨q, hq⟩ : ∃ q, f'.bytes.length = q := ⟨_, rfl⟩
  obtain ⟨tu, htu⟩ : ∃ tu, f'.turned = tu := ⟨_, rfl⟩
  simp [rowF] at c4 c5
  rw [hq] at c4 hr hfl
  rw [htu] at c5 hr
  clear h hra h8 hz1 hz2 hgl hq hf hk hm1 htu
  rcases hr with ⟨rfl, h0⟩ | ⟨rfl, h1, h2, h3, rfl⟩
  · by_cases hb0 : b = 0
    · subst hb0
      clear h0
      go_enter Try.func31, Try.ntmps31
      go_wp2_with fail
      go_ret
      exact ⟨rfl, rfl⟩
    · have t0 : (b == 0) = false := by simpa using hb0
      by_cases ha0 : at_ < 0
      · clear h0 hb0
        go_enter Try.func31, Try.ntmps31
        go_wp2_with fail
        go_ret
        exact ⟨rfl, rfl⟩
      · have ha1 : (q : Int) ≤ at_ := by omega
        clear h0 hb0
        go_enter Try.func31, Try.ntmps31
        go_wp2_with fail
        go_ret
        exact ⟨rfl, rfl⟩
  · have t0 : (b == 0) = false := by simp; omega
    have t1 : decide ((q : Int) ≤ at_) = false := decide_eq_false (by omega)
    go_enter Try.func31, Try.ntmps31
    go_wp2_with fail
    go_ret
    exact ⟨rfl, rfl⟩
set_option maxRecDepth 100000 in
set_option maxHeartbeats 1600000 in
theorem rTurnOk {X : Nat → Prop} {w : World} {S : Nat} {hosts : Int} {fs : List F} {cut : Int → Int → Int → Bool} (h : RNet X w S hosts fs cut) (k : Nat) (f : F) (hf : fs[k]? = some f) (at_ : Nat) (b : Int) (hb : 1 ≤ b ∧ b ≤ 255) (hat : at_ < f.bytes.length) (ht : f.turned = false) :
    Calls Try.prog 31 #[.pointer (some ⟨S, 0, none⟩), .int .i64 k, .int .i64 at_, .int .u8 b] w fun e w' => e = .returned (.int .i64 0) ∧ RNet X w' S hosts (fs.set k (turnF f at_ b)) cut ∧ ButX X w w' := by
  obtain ⟨zs, p, m, c, ds, h⟩ := h
  have hk : k < fs.length := (List.getElem?_eq_some_iff.1 hf).1
  have hm1 := h.ok.1
  rw [h.flen] at hk hm1
  obtain ⟨⟨f', d⟩, hz1, hz2⟩ := h.get k hk
  obtain rfl : f' = f := by rw [hz2] at hf; exact Option.some.inj hf
  have hfo := h.ok.2 f' (List.mem_of_getElem? hz2)
  have hfl : f'.bytes.length ≤ 4096 := hfo.1
  obtain ⟨g, c', ec, hgl, hXg, _, hra, h8⟩ := h.list.elem k _ hz1
  rw [h.len] at ec
  cases ec
  obtain ⟨pd, cd, rfl, _⟩ : ∃ pd cd, d = .slice pd f'.bytes.length cd ∧ True := by obtain ⟨pd, cd, e, _⟩ := h8.1.reads; exact ⟨pd, cd, e, trivial⟩
  obtain ⟨gd, rfl, _, _, hgd⟩ := h8.1.form (by show 0 < f'.bytes.length; omega)
  have c1 := h.row.cell 1
  rw [h.h1] at c1
  have c4 := hra 4 _ rfl
  have c5 := hra 5 _ rfl
  have cb := (h8.1.cell at_ hat).1
  have hkm : (k : Int) < m := by omega
  have hkm2 : decide ((m : Int) ≤ k) = false := decide_eq_false (by omega)
  have hm63 : m ≤ 1024 := by omega
  simp [rowF] at c4 c5
  have H := Lib.hid h
  have HX := Lib.hid hXg
  have HF := Lib.hid (And.intro hf (And.intro hfo (And.intro hk hat)))
  have HB := Lib.hid hb
  have hrB := Lib.hid (show Row .u8 5 0 w (.slice (some ⟨gd, 0, none⟩) f'.bytes.length cd) f'.bytes from h8.1)
  obtain ⟨x, hx⟩ : ∃ x, f'.bytes.getD at_ 0 = x := ⟨_, rfl⟩
  obtain ⟨q, hq⟩ : ∃ q, f'.bytes.length = q := ⟨_, rfl⟩
  rw [hx] at cb
  rw [hq] at c4 hrB hfl hat
  rw [ht] at c5
  have HQ := Lib.hid (And.intro hx (And.intro hq ht))
  simp only [hq] at h8
  rw [hq] at hz1
  have H8 := Lib.hid h8
  have HZ := Lib.hid hz1
  have t0 : (b == 0) = false := by simp; omega
  have hat' : (at_ : Int) < q := by omega
  have t1 : decide ((q : Int) ≤ at_) = false := decide_eq_false (by omega)
  have ls := H.out.row.lt
  have lg := hgl
  have lgd := hgd
  have EX : bits .xor .u8 x b = xor8 x b := rfl
  obtain ⟨y, hy⟩ : ∃ y, xor8 x b = y := ⟨_, rfl⟩
  rw [hy] at EX
  have HY := Lib.hid hy
  clear h hra h8 hz1 hz2 hgl hq hf hk hm1 ht hx hfo hXg hgd hy
  go_enter Try.func31, Try.ntmps31
  go_upto_region 7 with fail
  obtain ⟨w0, rfl⟩ : ∃ w0, w0 = w := ⟨_, rfl⟩
  refine Mono.wp_region_monoT 23 [some 47, some 48, some 49, some 50, some 51, some 52, some 53, some 54, some 55, some 56, some 57, some 58, some 59, some 60, some 61, some 62, some 63, some 64, some 65, some 66, some 67, some 68, some 69] [Mono.isV (.pointer (some ⟨S, 0, none⟩)), Mono.isV (.pointer (some ⟨S, 0, none⟩)), Mono.isV (.pointer (some ⟨S, 1, none⟩)), Mono.isV (.slice (some ⟨g, 0, none⟩) m c), Mono.isV (.int .i64 k), Mono.isV (.pointer (some ⟨g, k * 6, none⟩)), Mono.isV (.pointer (some ⟨g, k * 6 + 4, none⟩)), Mono.isV (.slice (some ⟨gd, 0, none⟩) q cd), Mono.isV (.int .i64 at_), Mono.isV (.pointer (some ⟨S, 0, none⟩)), Mono.isV (.pointer (some ⟨S, 0, none⟩)), Mono.isV (.pointer (some ⟨S, 1, none⟩)), Mono.isV (.slice (some ⟨g, 0, none⟩) m c), Mono.isV (.int .i64 k), Mono.isV (.pointer (some ⟨g, k * 6, none⟩)), Mono.isV (.pointer (some ⟨g, k * 6 + 4, none⟩)), Mono.isV (.slice (some ⟨gd, 0, none⟩) q cd), Mono.isV (.int .i64 at_), Mono.isV (.pointer (some ⟨gd, at_, none⟩)), Mono.isV (.int .u8 x), Mono.isV (.int .u8 b), Mono.isV (.int .u8 y), Mono.isV (.pointer (some ⟨gd, at_, none⟩))] (by kernel_rfl) (by kernel_rfl) ?_ ?_
  · simp only [Mono.OpGoals, List.take_succ_cons, List.take_zero, and_true]
    refine ⟨?_, ?_, ?_, ?_, ?_, ?_, ?_, ?_, ?_, ?_, ?_, ?_, ?_, ?_, ?_, ?_, ?_, ?_, ?_, ?_, ?_, ?_, ?_⟩
    · intro a u hbu hsu hdu
      have c1 := (hbu.cell (p := ⟨S, 1, none⟩) ls).trans c1; have c4 := (hbu.cell (p := ⟨g, k * 6 + 4, none⟩) lg).trans c4; have cb := (hbu.cell (p := ⟨gd, at_, none⟩) lgd).trans cb
      refine Mono.if_want rfl ?_
      exact Mono.ok_move (.tmp 0) rfl (hsu 0 (by decide))
    · intro a u hbu hsu hdu
      have c1 := (hbu.cell (p := ⟨S, 1, none⟩) ls).trans c1; have c4 := (hbu.cell (p := ⟨g, k * 6 + 4, none⟩) lg).trans c4; have cb := (hbu.cell (p := ⟨gd, at_, none⟩) lgd).trans cb
      refine Mono.if_want rfl ?_
      have z47 : a.eval (.tmp 47) = .pointer (some ⟨S, 0, none⟩) := Mono.dep_at hdu (i := 0) (d := 47) rfl rfl rfl
      simp [Act.eval] at z47
      exact Mono.ok_val (.pointer (some ⟨S, 0, none⟩)) (by simp [execOp, z47, go_sem, c1, c4, cb, hkm, hat', EX]) rfl
    · intro a u hbu hsu hdu
      have c1 := (hbu.cell (p := ⟨S, 1, none⟩) ls).trans c1; have c4 := (hbu.cell (p := ⟨g, k * 6 + 4, none⟩) lg).trans c4; have cb := (hbu.cell (p := ⟨gd, at_, none⟩) lgd).trans cb
      refine Mono.if_want rfl ?_
      have z48 : a.eval (.tmp 48) = .pointer (some ⟨S, 0, none⟩) := Mono.dep_at hdu (i := 1) (d := 48) rfl rfl rfl
      simp [Act.eval] at z48
      exact Mono.ok_val (.pointer (some ⟨S, 1, none⟩)) (by simp [execOp, z48, go_sem, c1, c4, cb, hkm, hat', EX]) rfl
    · intro a u hbu hsu hdu
      have c1 := (hbu.cell (p := ⟨S, 1, none⟩) ls).trans c1; have c4 := (hbu.cell (p := ⟨g, k * 6 + 4, none⟩) lg).trans c4; have cb := (hbu.cell (p := ⟨gd, at_, none⟩) lgd).trans cb
      refine Mono.if_want rfl ?_
      have z49 : a.eval (.tmp 49) = .pointer (some ⟨S, 1, none⟩) := Mono.dep_at hdu (i := 2) (d := 49) rfl rfl rfl
      simp [Act.eval] at z49
      exact Mono.ok_val (.slice (some ⟨g, 0, none⟩) m c) (by simp [execOp, z49, go_sem, c1, c4, cb, hkm, hat', EX]) rfl
    · intro a u hbu hsu hdu
      have c1 := (hbu.cell (p := ⟨S, 1, none⟩) ls).trans c1; have c4 := (hbu.cell (p := ⟨g, k * 6 + 4, none⟩) lg).trans c4; have cb := (hbu.cell (p := ⟨gd, at_, none⟩) lgd).trans cb
      refine Mono.if_want rfl ?_
      exact Mono.ok_move (.tmp 1) rfl (hsu 1 (by decide))
    · intro a u hbu hsu hdu
      have c1 := (hbu.cell (p := ⟨S, 1, none⟩) ls).trans c1; have c4 := (hbu.cell (p := ⟨g, k * 6 + 4, none⟩) lg).trans c4; have cb := (hbu.cell (p := ⟨gd, at_, none⟩) lgd).trans cb
      refine Mono.if_want rfl ?_
      have z50 : a.eval (.tmp 50) = .slice (some ⟨g, 0, none⟩) m c := Mono.dep_at hdu (i := 3) (d := 50) rfl rfl rfl
      simp [Act.eval] at z50
      have z51 : a.eval (.tmp 51) = .int .i64 k := Mono.dep_at hdu (i := 4) (d := 51) rfl rfl rfl
      simp [Act.eval] at z51
      exact Mono.ok_val (.pointer (some ⟨g, k * 6, none⟩)) (by simp [execOp, z50, z51, go_sem, c1, c4, cb, hkm, hat', EX]) rfl
    · intro a u hbu hsu hdu
      have c1 := (hbu.cell (p := ⟨S, 1, none⟩) ls).trans c1; have c4 := (hbu.cell (p := ⟨g, k * 6 + 4, none⟩) lg).trans c4; have cb := (hbu.cell (p := ⟨gd, at_, none⟩) lgd).trans cb
      refine Mono.if_want rfl ?_
      have z52 : a.eval (.tmp 52) = .pointer (some ⟨g, k * 6, none⟩) := Mono.dep_at hdu (i := 5) (d := 52) rfl rfl rfl
      simp [Act.eval] at z52
      exact Mono.ok_val (.pointer (some ⟨g, k * 6 + 4, none⟩)) (by simp [execOp, z52, go_sem, c1, c4, cb, hkm, hat', EX]) rfl
    · intro a u hbu hsu hdu
      have c1 := (hbu.cell (p := ⟨S, 1, none⟩) ls).trans c1; have c4 := (hbu.cell (p := ⟨g, k * 6 + 4, none⟩) lg).trans c4; have cb := (hbu.cell (p := ⟨gd, at_, none⟩) lgd).trans cb
      refine Mono.if_want rfl ?_
      have z53 : a.eval (.tmp 53) = .pointer (some ⟨g, k * 6 + 4, none⟩) := Mono.dep_at hdu (i := 6) (d := 53) rfl rfl rfl
      simp [Act.eval] at z53
      exact Mono.ok_val (.slice (some ⟨gd, 0, none⟩) q cd) (by simp [execOp, z53, go_sem, c1, c4, cb, hkm, hat', EX]) rfl
    · intro a u hbu hsu hdu
      have c1 := (hbu.cell (p := ⟨S, 1, none⟩) ls).trans c1; have c4 := (hbu.cell (p := ⟨g, k * 6 + 4, none⟩) lg).trans c4; have cb := (hbu.cell (p := ⟨gd, at_, none⟩) lgd).trans cb
      refine Mono.if_want rfl ?_
      exact Mono.ok_move (.tmp 2) rfl (hsu 2 (by decide))
    · intro a u hbu hsu hdu
      have c1 := (hbu.cell (p := ⟨S, 1, none⟩) ls).trans c1; have c4 := (hbu.cell (p := ⟨g, k * 6 + 4, none⟩) lg).trans c4; have cb := (hbu.cell (p := ⟨gd, at_, none⟩) lgd).trans cb
      refine Mono.if_want rfl ?_
      exact Mono.ok_move (.tmp 0) rfl (hsu 0 (by decide))
    · intro a u hbu hsu hdu
      have c1 := (hbu.cell (p := ⟨S, 1, none⟩) ls).trans c1; have c4 := (hbu.cell (p := ⟨g, k * 6 + 4, none⟩) lg).trans c4; have cb := (hbu.cell (p := ⟨gd, at_, none⟩) lgd).trans cb
      refine Mono.if_want rfl ?_
      have z56 : a.eval (.tmp 56) = .pointer (some ⟨S, 0, none⟩) := Mono.dep_at hdu (i := 9) (d := 56) rfl rfl rfl
      simp [Act.eval] at z56
      exact Mono.ok_val (.pointer (some ⟨S, 0, none⟩)) (by simp [execOp, z56, go_sem, c1, c4, cb, hkm, hat', EX]) rfl
    · intro a u hbu hsu hdu
      have c1 := (hbu.cell (p := ⟨S, 1, none⟩) ls).trans c1; have c4 := (hbu.cell (p := ⟨g, k * 6 + 4, none⟩) lg).trans c4; have cb := (hbu.cell (p := ⟨gd, at_, none⟩) lgd).trans cb
      refine Mono.if_want rfl ?_
      have z57 : a.eval (.tmp 57) = .pointer (some ⟨S, 0, none⟩) := Mono.dep_at hdu (i := 10) (d := 57) rfl rfl rfl
      simp [Act.eval] at z57
      exact Mono.ok_val (.pointer (some ⟨S, 1, none⟩)) (by simp [execOp, z57, go_sem, c1, c4, cb, hkm, hat', EX]) rfl
    · intro a u hbu hsu hdu
      have c1 := (hbu.cell (p := ⟨S, 1, none⟩) ls).trans c1; have c4 := (hbu.cell (p := ⟨g, k * 6 + 4, none⟩) lg).trans c4; have cb := (hbu.cell (p := ⟨gd, at_, none⟩) lgd).trans cb
      refine Mono.if_want rfl ?_
      have z58 : a.eval (.tmp 58) = .pointer (some ⟨S, 1, none⟩) := Mono.dep_at hdu (i := 11) (d := 58) rfl rfl rfl
      simp [Act.eval] at z58
      exact Mono.ok_val (.slice (some ⟨g, 0, none⟩) m c) (by simp [execOp, z58, go_sem, c1, c4, cb, hkm, hat', EX]) rfl
    · intro a u hbu hsu hdu
      have c1 := (hbu.cell (p := ⟨S, 1, none⟩) ls).trans c1; have c4 := (hbu.cell (p := ⟨g, k * 6 + 4, none⟩) lg).trans c4; have cb := (hbu.cell (p := ⟨gd, at_, none⟩) lgd).trans cb
      refine Mono.if_want rfl ?_
      exact Mono.ok_move (.tmp 1) rfl (hsu 1 (by decide))
    · intro a u hbu hsu hdu
      have c1 := (hbu.cell (p := ⟨S, 1, none⟩) ls).trans c1; have c4 := (hbu.cell (p := ⟨g, k * 6 + 4, none⟩) lg).trans c4; have cb := (hbu.cell (p := ⟨gd, at_, none⟩) lgd).trans cb
      refine Mono.if_want rfl ?_
      have z59 : a.eval (.tmp 59) = .slice (some ⟨g, 0, none⟩) m c := Mono.dep_at hdu (i := 12) (d := 59) rfl rfl rfl
      simp [Act.eval] at z59
      have z60 : a.eval (.tmp 60) = .int .i64 k := Mono.dep_at hdu (i := 13) (d := 60) rfl rfl rfl
      simp [Act.eval] at z60
      exact Mono.ok_val (.pointer (some ⟨g, k * 6, none⟩)) (by simp [execOp, z59, z60, go_sem, c1, c4, cb, hkm, hat', EX]) rfl
    · intro a u hbu hsu hdu
      have c1 := (hbu.cell (p := ⟨S, 1, none⟩) ls).trans c1; have c4 := (hbu.cell (p := ⟨g, k * 6 + 4, none⟩) lg).trans c4; have cb := (hbu.cell (p := ⟨gd, at_, none⟩) lgd).trans cb
      refine Mono.if_want rfl ?_
      have z61 : a.eval (.tmp 61) = .pointer (some ⟨g, k * 6, none⟩) := Mono.dep_at hdu (i := 14) (d := 61) rfl rfl rfl
      simp [Act.eval] at z61
      exact Mono.ok_val (.pointer (some ⟨g, k * 6 + 4, none⟩)) (by simp [execOp, z61, go_sem, c1, c4, cb, hkm, hat', EX]) rfl
    · intro a u hbu hsu hdu
      have c1 := (hbu.cell (p := ⟨S, 1, none⟩) ls).trans c1; have c4 := (hbu.cell (p := ⟨g, k * 6 + 4, none⟩) lg).trans c4; have cb := (hbu.cell (p := ⟨gd, at_, none⟩) lgd).trans cb
      refine Mono.if_want rfl ?_
      have z62 : a.eval (.tmp 62) = .pointer (some ⟨g, k * 6 + 4, none⟩) := Mono.dep_at hdu (i := 15) (d := 62) rfl rfl rfl
      simp [Act.eval] at z62
      exact Mono.ok_val (.slice (some ⟨gd, 0, none⟩) q cd) (by simp [execOp, z62, go_sem, c1, c4, cb, hkm, hat', EX]) rfl
    · intro a u hbu hsu hdu
      have c1 := (hbu.cell (p := ⟨S, 1, none⟩) ls).trans c1; have c4 := (hbu.cell (p := ⟨g, k * 6 + 4, none⟩) lg).trans c4; have cb := (hbu.cell (p := ⟨gd, at_, none⟩) lgd).trans cb
      refine Mono.if_want rfl ?_
      exact Mono.ok_move (.tmp 2) rfl (hsu 2 (by decide))
    · intro a u hbu hsu hdu
      have c1 := (hbu.cell (p := ⟨S, 1, none⟩) ls).trans c1; have c4 := (hbu.cell (p := ⟨g, k * 6 + 4, none⟩) lg).trans c4; have cb := (hbu.cell (p := ⟨gd, at_, none⟩) lgd).trans cb
      refine Mono.if_want rfl ?_
      have z63 : a.eval (.tmp 63) = .slice (some ⟨gd, 0, none⟩) q cd := Mono.dep_at hdu (i := 16) (d := 63) rfl rfl rfl
      simp [Act.eval] at z63
      have z64 : a.eval (.tmp 64) = .int .i64 at_ := Mono.dep_at hdu (i := 17) (d := 64) rfl rfl rfl
      simp [Act.eval] at z64
      exact Mono.ok_val (.pointer (some ⟨gd, at_, none⟩)) (by simp [execOp, z63, z64, go_sem, c1, c4, cb, hkm, hat', EX]) rfl
    · intro a u hbu hsu hdu
      have c1 := (hbu.cell (p := ⟨S, 1, none⟩) ls).trans c1; have c4 := (hbu.cell (p := ⟨g, k * 6 + 4, none⟩) lg).trans c4; have cb := (hbu.cell (p := ⟨gd, at_, none⟩) lgd).trans cb
      refine Mono.if_want rfl ?_
      have z65 : a.eval (.tmp 65) = .pointer (some ⟨gd, at_, none⟩) := Mono.dep_at hdu (i := 18) (d := 65) rfl rfl rfl
      simp [Act.eval] at z65
      exact Mono.ok_val (.int .u8 x) (by simp [execOp, z65, go_sem, c1, c4, cb, hkm, hat', EX]) rfl
    · intro a u hbu hsu hdu
      have c1 := (hbu.cell (p := ⟨S, 1, none⟩) ls).trans c1; have c4 := (hbu.cell (p := ⟨g, k * 6 + 4, none⟩) lg).trans c4; have cb := (hbu.cell (p := ⟨gd, at_, none⟩) lgd).trans cb
      refine Mono.if_want rfl ?_
      exact Mono.ok_move (.tmp 3) rfl (hsu 3 (by decide))
    · intro a u hbu hsu hdu
      have c1 := (hbu.cell (p := ⟨S, 1, none⟩) ls).trans c1; have c4 := (hbu.cell (p := ⟨g, k * 6 + 4, none⟩) lg).trans c4; have cb := (hbu.cell (p := ⟨gd, at_, none⟩) lgd).trans cb
      refine Mono.if_want rfl ?_
      have z66 : a.eval (.tmp 66) = .int .u8 x := Mono.dep_at hdu (i := 19) (d := 66) rfl rfl rfl
      simp [Act.eval] at z66
      have z67 : a.eval (.tmp 67) = .int .u8 b := Mono.dep_at hdu (i := 20) (d := 67) rfl rfl rfl
      simp [Act.eval] at z67
      exact Mono.ok_val (.int .u8 y) (by simp [execOp, z66, z67, go_sem, c1, c4, cb, hkm, hat', EX]) rfl
    · intro a u hbu hsu hdu
      have c1 := (hbu.cell (p := ⟨S, 1, none⟩) ls).trans c1; have c4 := (hbu.cell (p := ⟨g, k * 6 + 4, none⟩) lg).trans c4; have cb := (hbu.cell (p := ⟨gd, at_, none⟩) lgd).trans cb
      refine Mono.if_want rfl ?_
      have z54 : a.eval (.tmp 54) = .slice (some ⟨gd, 0, none⟩) q cd := Mono.dep_at hdu (i := 7) (d := 54) rfl rfl rfl
      simp [Act.eval] at z54
      have z55 : a.eval (.tmp 55) = .int .i64 at_ := Mono.dep_at hdu (i := 8) (d := 55) rfl rfl rfl
      simp [Act.eval] at z55
      exact Mono.ok_val (.pointer (some ⟨gd, at_, none⟩)) (by simp [execOp, z54, z55, go_sem, c1, c4, cb, hkm, hat', EX]) rfl
  intro u hu
  simp only [Mono.Fin]
  rintro _ rfl _ rfl _ rfl _ rfl _ rfl _ rfl _ rfl _ rfl _ rfl _ rfl _ rfl _ rfl _ rfl _ rfl _ rfl _ rfl _ rfl _ rfl _ rfl _ rfl _ rfl _ rfl _ rfl
  simp [Act.put]
  have hru := hrB.out.below hu
  have hSu := H.out.row.ext hu
  have H := Lib.hid (H.out.below hu)
  have HBU := Lib.hid hu
  have H8 := Lib.hid (H8.out.below hu)
  clear c1 c4 c5 cb
  go_wp2_with (first
    | ((with_reducible refine wpl_storeB rfl 5 (.tmp 69) (.tmp 68) rfl rfl .u8 0 5 gd q cd at_ f'.bytes y ?_ ?_ hru HQ.out.2.1.symm ?_ (by kernel_rfl) ?_); rfl; rfl; (exact HF.out.2.2.2); go_must (intro w3 hr3 hg3; have HR3 := Lib.hid hr3; have HG3 := Lib.hid hg3; have hne := own_ne (H8.out).1 H.out.row (by decide); have hrow3 := H.out.row.grown hg3 (fun e => hne (by rw [e]; rfl)); have hl3 := Lib.hid (H.out.list.byte k f' _ HZ.out { f' with bytes := f'.bytes.set at_ y } rfl hg3 (by simpa [HQ.out.2.1] using hr3)); clear hne hr3 hg3; have c1 := hrow3.cell 1; rw [H.out.h1] at c1; have HROW3 := Lib.hid hrow3; clear hrow3 hru hSu))
    | ((with_reducible refine wpl_storeO rfl 4 (.tmp 76) (.const (.bool true)) rfl rfl 0 35 6 g m c (k * 6 + 5) (flatF (zs.set k ({ f' with bytes := f'.bytes.set at_ y }, .slice (some ⟨gd, 0, none⟩) q cd))) (.bool true) ?_ ?_ ?_ ?_ (by kernel_rfl) rfl ?_); rfl; rfl; (have hh := hl3.out.row; rw [List.length_set, H.out.len] at hh; exact hh); (have := HF.out.2.2.1; omega); go_must (intro w4 ho4 hg4)))
  go_ret
  have hh := H.out
  have hl := hh.len
  have hF := HF.out
  have hl3' := hl3.out
  have hy := HY.out
  have hz3 : (zs.set k (({ f' with bytes := f'.bytes.set at_ y } : F), Value.slice (some ⟨gd, 0, none⟩) q cd))[k]? = some (({ f' with bytes := f'.bytes.set at_ y } : F), Value.slice (some ⟨gd, 0, none⟩) q cd) := by
    rw [List.getElem?_set_self (by omega)]
  have et : turnF f' at_ b = { f' with bytes := f'.bytes.set at_ y, turned := true } := by
    unfold turnF
    rw [show ((at_ : Nat) : Int).toNat = at_ from by omega, HQ.out.1, hy]
  have hl4 := hl3'.mark k 5 _ _ (.bool true) hz3 (turnF f' at_ b) (by decide) (by rw [et]; rfl) (by rw [et]) hg4 (by rw [List.length_set, hl]; exact ho4)
  rw [List.set_set] at hl4
  have hne := own_ne hh.list.row hh.row (by decide)
  have hrow4 := HROW3.out.grown hg4 (fun e => hne (by rw [e]; rfl))
  have h8 := H8.out
  have hX : ButX X w0 w4 := (ButX.ofBelow HBU.out).trans (((ButX.ofGrown HG3.out (fun q e => by cases e; exact h8.2 _ rfl)).trans ((ButX.ofGrown hg4 (fun q e => by cases e; exact HX.out)).mono more_self)).mono more_self)
  refine ⟨rfl, ⟨_, _, m, c, ds, hrow4, hh.size, hh.h0, hh.h1, hh.says, hh.xS, ?_, by rw [List.length_set, hl], hl4, ⟨by rw [List.length_set]; exact hh.ok.1, fun y hy => ?_⟩, hh.hosts⟩, hX⟩
  · rw [List.map_set, hh.fst]
  · rcases List.mem_or_eq_of_mem_set hy with hy | rfl
    · exact hh.ok.2 y hy
    · exact turnF_ok hF.2.1 at_ hF.2.2.2 b (by have := HB.out; omega)
/-- Turn, in all cases. -/
theorem rTurnX {X : Nat → Prop} {w : World} {S : Nat} {hosts : Int} {fs : List F} {cut : Int → Int → Int → Bool} (h : RNet X w S hosts fs cut) (k at_ b : Int) (hb : 0 ≤ b ∧ b ≤ 255) (hat : -9223372036854775808 ≤ at_ ∧ at_ ≤ 9223372036854775807) :
    Calls Try.prog 31 #[.pointer (some ⟨S, 0, none⟩), .int .i64 k, .int .i64 at_, .int .u8 b] w fun e w' => e = .returned (.int .i64 (turnE fs k at_ b)) ∧ RNet X w' S hosts (turnL fs k at_ b) cut ∧ ButX X w w' := by
  cases hk : inB fs.length k with
  | false =>
    have e1 : turnE fs k at_ b = 8 := by unfold turnE; rw [hk]; rfl
    have e2 : turnL fs k at_ b = fs := by unfold turnL; rw [e1]; rfl
    rw [e1, e2]
    exact (rTurnNone h k at_ b hk).mono fun e w' ⟨e1, e2⟩ => by subst e2; exact ⟨e1, h, ButX.refl _ _⟩
  | true =>
    have hk' : 0 ≤ k ∧ k < fs.length := by simpa [inB] using hk
    obtain ⟨j, rfl⟩ : ∃ j : Nat, k = j := ⟨k.toNat, by omega⟩
    have hj : j < fs.length := by omega
    obtain ⟨f, hf⟩ : ∃ f, fs[j]? = some f := ⟨_, List.getElem?_eq_getElem hj⟩
    have ef : takeF fs j = f := by
      unfold takeF
      rw [hk, if_pos rfl, show ((j : Nat) : Int).toNat = j from by omega, List.getD_eq_getElem?_getD, hf]
      rfl
    by_cases h1 : b = 0 ∨ inB f.bytes.length at_ = false
    · have e1 : turnE fs j at_ b = 1 := by unfold turnE; rw [hk, if_pos rfl, ef, if_pos h1]
      have e2 : turnL fs j at_ b = fs := by unfold turnL; rw [e1]; rfl
      rw [e1, e2]
      exact (rTurnNot h j hj f hf at_ b 1 hb hat (.inl ⟨rfl, by
        rcases h1 with h1 | h1
        · exact .inl h1
        · right; simp [inB] at h1; omega⟩)).mono fun e w' ⟨e1, e2⟩ => by subst e2; exact ⟨e1, h, ButX.refl _ _⟩
    · have hb1 : b ≠ 0 := fun e => h1 (.inl e)
      have hb2 : 0 ≤ at_ ∧ at_ < f.bytes.length := by
        cases hi : inB f.bytes.length at_ with
        | false => exact absurd (.inr hi) h1
        | true => simpa [inB] using hi
      cases ht : f.turned with
      | true =>
        have e1 : turnE fs j at_ b = 7 := by unfold turnE; rw [hk, if_pos rfl, ef, if_neg h1, ht]; rfl
        have e2 : turnL fs j at_ b = fs := by unfold turnL; rw [e1]; rfl
        rw [e1, e2]
        exact (rTurnNot h j hj f hf at_ b 7 hb hat (.inr ⟨rfl, by omega, hb2.1, hb2.2, ht⟩)).mono fun e w' ⟨e1, e2⟩ => by subst e2; exact ⟨e1, h, ButX.refl _ _⟩
      | false =>
        obtain ⟨i, rfl⟩ : ∃ i : Nat, at_ = i := ⟨at_.toNat, by omega⟩
        have e1 : turnE fs j i b = 0 := by unfold turnE; rw [hk, if_pos rfl, ef, if_neg h1, ht]; rfl
        have e2 : turnL fs j i b = fs.set j (turnF f i b) := by unfold turnL; rw [e1, if_pos rfl, ef]; rfl
        rw [e1, e2]
        exact rTurnOk h j f hf i b (by omega) (by omega) ht
end Go.Proofs.Ytmdhpjbahenbhaa.Net
