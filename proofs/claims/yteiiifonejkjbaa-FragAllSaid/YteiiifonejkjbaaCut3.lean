/-
  Contracts: NewCutter (9); own (11); answers (14). One piece of a list that Cut answers.
-/
import Derived.Test.YteiiifonejkjbaaCut2
import Derived.Deep.DeepMust
import Derived.Lib.SlBytesConst
namespace Go.Proofs.Yteiiifonejkjbaa.Chunk
open Go.RowKit Go.Shelf Mem Cells Ops Pcs
set_option linter.unusedVariables false
set_option linter.unusedSimpArgs false
attribute [local go_sem] Oper.semAt_some

def TrueB (w : World) : Ending → World → Prop := fun e w' => e = .returned (.bool true) ∧ Below w.heap.size w w'
theorem newC (w : World) : Calls Try.prog 9 #[] w fun e w' => e = .returned (.pointer (some ⟨w.heap.size, 0, none⟩)) ∧ At w' w.heap.size 66 (nxA fun _ => 0) ∧ Below w.heap.size w w' ∧ w'.heap.size = w.heap.size + 1 := by
  go_enter Try.func9, Try.ntmps9
  go_wp2
  go_ret
  exact ⟨rfl, At.new _ _ _, (Below.refl _ _).alloc (Nat.le_refl _) _, by simp⟩

def OwnIs (w : World) (s : Int) (xs : List Int) : Ending → World → Prop := fun e w' => ∃ v, e = .returned (.agg #[.int .u16 s, v]) ∧ Row .u8 5 w.heap.size w' v xs ∧ Below w.heap.size w w'
set_option maxRecDepth 100000 in
set_option maxHeartbeats 800000 in
theorem own11 (w : World) (s : Int) (v : Value) (xs : List Int) (hr : Reads .u8 w v xs) (hb : xs.length ≤ 140737488355328) : Calls Try.prog 11 #[.agg #[.int .u16 s, v]] w (OwnIs w s xs) := by
  obtain ⟨p, c, hv, h1, h2, h3, h4⟩ := id hr
  obtain ⟨L, hL⟩ : ∃ L, xs.length = L := ⟨_, rfl⟩
  rw [hL] at hv
  subst hv
  have HL := Lib.hid hL
  have HR := Lib.hid hr
  have HBB := Lib.hid hb
  clear hr h1 h2 h3 h4 hb hL
  go_enter Try.func11, Try.ntmps11
  go_wp2_with (first
    | ((with_reducible refine wpl_boxAt rfl 32 (.tmp 0) rfl #[.int .u16 s, .slice p L c] ?_ ?_); rfl; go_must (intro w1 hat1 hb1 hs1; have HB1 := Lib.hid hb1; have HS1 := Lib.hid hs1; clear hb1 hs1))
    | ((with_reducible refine wpl_allocAt rfl 32 rfl #[.int .u16 0, .slice none 0 0] (by kernel_rfl) ?_); go_must (intro w2 hat2 hb2 hs2; have hat1b := hat1.ext hb2; have HB2 := Lib.hid (HB1.out.trans (hb2.mono HB1.out.size)); have HS2 := Lib.hid hs2; have HS1b := Lib.hid hb2.size; clear hb2 hs2 hat1))
    | ((with_reducible refine wpl_empty rfl 30 5 rfl .u8 (fun _ => by kernel_rfl) ?_); go_must (intro w3 hown3 hb3 hs3; have hat1c := hat1b.ext hb3; have hat2c := hat2.ext hb3; have c1 := hat1c.cell 1; simp at c1; have HB3 := Lib.hid (HB2.out.trans (hb3.mono HB2.out.size)); have HO3 := Lib.hid hown3; have HS3 := Lib.hid hb3.size; clear hb3 hs3 hat1b hat2 hown3))
    | (at_builtin; have _t := HO3; clear _t; go_must (obtain ⟨i0, hi, hz0, hz1, hz2⟩ := info_parts info5; refine wpl_append rfl (.tmp 3) (.tmp 5) 30 rfl .u8 w2.heap.size 5 1 i0 (.int .u8 0) Try.underlying30 hi hz0 hz1 hz2 rfl (.slice (some ⟨w2.heap.size, 0, none⟩) 0 0) _ [] xs rfl rfl HO3.out (HL.out ▸ HR.out.below HB3.out) (by have := HBB.out; simp [maxLen]; omega) (by have := HBB.out; simp; omega) HS3.out ?_; clear hi hz0 hz1 hz2; intro v4 w4 hv4 hg4; rw [List.nil_append] at hv4; have hat1d := hat1c.grown (k := w2.heap.size) hg4 (by have := HS2.out; have := HS1.out; have := HS1b.out; omega); have hat2d := hat2c.grown (k := w2.heap.size) hg4 (by have := HS2.out; have := HS1.out; omega); have HV4 := Lib.hid hv4; have HB4 := Lib.hid (HB3.out.grown hg4 HB3.out.size (fun q e => by cases e; exact HB2.out.size)); have HG4 := Lib.hid hg4.size; obtain ⟨p4, c4, rfl, _⟩ := hv4.reads; clear hv4 hg4 hat1c hat2c c1 HO3))
    | ((with_reducible refine wpl_storeC rfl 30 (.tmp 7) (.tmp 6) rfl rfl w.heap.size 1 32 #[.int .u16 s, .slice p L c] #[.int .u16 s, .slice p4 xs.length c4] (.slice p4 xs.length c4) ?_ ?_ hat1d ?_ (by kernel_rfl) ?_ ?_ ?_); rfl; rfl; exact (show (1 : Nat) < 2 by decide); rfl; rfl; go_must (intro w5 hat5 hg5; have hat2e := hat2d.grown hg5 (by have := HS1.out; omega); have HV5 := Lib.hid (HV4.out.kept hg5 (.inr (own_ne HV4.out hat1d (by decide)))); have HB5 := Lib.hid (below_grown HB4.out hg5 HB4.out.size (Nat.le_refl _)); clear hg5 hat1d hat2d))
    | ((with_reducible refine wpl_loadAt rfl 32 (.tmp 1) rfl w.heap.size 32 #[.int .u16 s, .slice p4 xs.length c4] hat5 _ Try.underlying32 rfl (by kernel_rfl) ?_ ?_); rfl)
    | ((with_reducible refine wpl_storeR rfl 32 (.tmp 2) (.tmp 8) rfl rfl w1.heap.size 32 #[.int .u16 0, .slice none 0 0] #[.int .u16 s, .slice p4 xs.length c4] ?_ ?_ hat2e (by kernel_rfl) ?_ ?_ ?_); rfl; rfl; rfl; (simp [Value.oneCell']); go_must (intro w6 hat6 hg6; have HV6 := Lib.hid (HV5.out.kept hg6 (.inr (own_ne HV5.out hat2e (by decide)))); have HB6 := Lib.hid (below_grown HB5.out hg6 HB5.out.size (by have := HS1.out; omega)))))
  refine end_cell (fn := Try.f11) (p := 2) (ty := 32) (by kernel_rfl) rfl hat6 Try.underlying32 rfl (by kernel_rfl) rfl ?_
  exact ⟨_, rfl, Row.mono HV6.out (by have := HS2.out; have := HS1.out; omega), HB6.out⟩
theorem string30 {w : World} {v : Value} {xs : List Int} (hr : Reads .u8 w v xs) : (convert 30 9 v).run Try.prog w = .ok (.string (strOfNums xs)) w :=
  run_string 30 9 5 Try.underlying30 Try.underlying5 Try.underlying9 hr
/-- Cut's answer where it cuts. -/
def CutIs (w : World) (gC : Nat) (nx : Nat → Int) (s L sz : Nat) (un : Bool) (xs : List Int) : Ending → World → Prop := fun e w' => ∃ g c k, e = .returned (.tuple #[.slice (some ⟨g, 0, none⟩) (k + 1) c, .int .i64 0]) ∧ L ≤ (k + 1) * sz ∧ k * sz < L ∧ k + 1 ≤ c ∧ c ≤ maxLen ∧
  OwnQ w.heap.size w' (.slice (some ⟨g, 0, none⟩) (k + 1) c) (PE s (cutSq un nx s) un xs sz (k + 1)) ∧ At w' gC 66 (nxA (cutNx un nx s)) ∧ ButX (fun k => k = gC) w w'
theorem cut_ok (w : World) (gC : Nat) (nx : Nat → Int) (hat : At w gC 66 (nxA nx)) (s : Nat) (hs : s < 8) (v : Value) (L sz : Nat) (xs : List Int) (un : Bool) (hr : Reads .u8 w v xs) (hLx : xs.length = L) (hL0 : 0 < L) (hL : L ≤ 4096) (hsz : 0 < sz) (hsz' : sz ≤ 256) :
    Calls Try.prog 10 #[.pointer (some ⟨gC, 0, none⟩), .agg #[.int .u16 s, v], .bool un, .int .i64 sz] w (CutIs w gC nx s L sz un xs) := by
  obtain ⟨p, cap, rfl, h1, h2, h3, h4⟩ := id hr
  obtain ⟨b, off, rfl, _, _⟩ := h4 (by omega)
  rw [hLx] at hr ⊢
  refine (cutOrd w gC nx hat s hs b off cap L sz xs un hr hL0 hL hsz hsz').mono ?_
  rintro e w' ⟨v, k, rfl, k1, k2, hq, hat', hb⟩
  obtain ⟨k, rfl⟩ : ∃ k', k = k' + 1 := ⟨k - 1, by rcases k with _ | k <;> omega⟩
  have hl := PE_length s (cutSq un nx s) un xs sz (k + 1)
  obtain ⟨g, c, rfl, q1, q2, _, _⟩ := hq.block (by omega)
  rw [hl] at hq q1 ⊢
  exact ⟨g, c, k, rfl, k1, by simpa using k2, q1, q2, hq, hat', hb⟩
theorem OwnQ.elem {B g c n : Nat} {w : World} {al : List A} (h : OwnQ B w (.slice (some ⟨g, 0, none⟩) n c) al) (i : Nat) (a : A) (hi : al[i]? = some a) :
    ∃ p m, w.rangeAt g (i * 7) (row a (.slice p a.data.length m)) ∧ Row .u8 5 B w (.slice p a.data.length m) a.data := by
  obtain ⟨zs, h1, h3, h4⟩ := h
  have hzl : zs.length = al.length := by rw [← h1, List.length_map]
  have hil : i < al.length := (List.getElem?_eq_some_iff.1 hi).1
  have hz : zs[i]? = some zs[i] := List.getElem?_eq_getElem (by omega)
  have ha : zs[i].1 = a := by
    have : al[i] = a := (List.getElem?_eq_some_iff.1 hi).2
    rw [← this]
    simp [← h1]
  have hr := h4 zs[i] (List.getElem_mem _)
  rw [ha] at hr
  obtain ⟨p, m, e, _⟩ := hr.reads
  refine ⟨p, m, fun j u hj => ?_, e ▸ hr⟩
  rw [← e, ← ha] at hj
  have hj7 : j < 7 := (List.getElem?_eq_some_iff.1 hj).1
  have hc := h3.cells (g := g) rfl (i * 7 + j) u (by rw [flat_get zs i zs[i] hz j hj7]; exact hj)
  rw [add_none, Nat.zero_add] at hc
  exact hc

def hello : List Int := [104, 101, 108, 108, 111]
set_option maxRecDepth 100000 in
set_option maxHeartbeats 800000 in
theorem answers (w : World) : Calls Try.prog 14 #[] w fun e w' => e = .returned (.bool true) ∧ Below w.heap.size w w' := by
  go_enter Try.func14, Try.ntmps14
  go_upto_region 5 with (first
    | (go_at_call 9; go_must (refine (newC _).mono ?_; rintro e w1 ⟨rfl, hat1, hb1, hs1⟩; have HB1 := Lib.hid hb1; have HA1 := Lib.hid hat1; have HS1 := Lib.hid hs1; have kc := Go.Lib.run_convert_bytes_const (P := Try.prog) w1 30 5 #[.int .u8 104, .int .u8 101, .int .u8 108, .int .u8 108, .int .u8 111] 5 5 Try.underlying30 Try.underlying5; simp only [List.size_toArray, List.length_cons, List.length_nil] at kc; clear hat1 hb1 hs1))
    | (go_at_call 10; go_must (refine (cut_ok _ _ _ (HA1.out.alloc (.cells #[.int .u8 104, .int .u8 101, .int .u8 108, .int .u8 108, .int .u8 111] 5 (5, 6))) 0 (by decide) _ 5 2 hello false (Reads.alloc .u8 _ hello 5 (5, 6) 5 (by decide) (by decide)) rfl (by decide) (by decide) (by decide) (by decide)).mono ?_; rintro e w2 ⟨g, c, k, rfl, k1, k2, k3, k4, hq, hat2, hb2⟩; obtain rfl : k = 2 := (by omega); have HQ := Lib.hid hq; have HB2 := Lib.hid hb2; clear k1 k2 hq hat2 hb2)))
  have hq := HQ.out
  obtain ⟨p, m, hra, hrow⟩ := OwnQ.elem hq 2 ⟨0, 0, 0, false, true, false, [111]⟩ rfl
  have c4 := hra 4 _ rfl
  have c6 := hra 6 _ rfl
  have hs := string30 hrow.reads
  have hd : (strOfNums [111]).toList = [111] := by decide +kernel
  simp at c4 c6 hs
  clear hra hrow hq
  go_wp2
  go_ret
  refine ⟨rfl, ?_⟩
  have h1 := HB1.out.alloc (o := .cells #[.int .u8 104, .int .u8 101, .int .u8 108, .int .u8 108, .int .u8 111] 5 (5, 6)) HB1.out.size
  exact h1.trans (HB2.out.below (fun k e => by rw [e]; exact Nat.le_refl _) h1.size)
end Go.Proofs.Yteiiifonejkjbaa.Chunk
