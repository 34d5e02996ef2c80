/-
  The law NetApart: the walk.
-/
import Derived.Test.YtmdhpjbahenbhaaList
import Derived.StillTailTactics
namespace Go.Proofs.Ytmdhpjbahenbhaa.Net
open Go.RowKit Mem Cells Ops Go.Maps
set_option linter.unusedVariables false
set_option linter.unusedSimpArgs false

theorem string31 {w : World} {v : Value} {xs : List Int} (hr : Reads .u8 w v xs) : (convert 31 9 v).run Try.prog w = .ok (.string (strOfNums xs)) w := run_string 31 9 5 Try.underlying31 Try.underlying5 Try.underlying9 hr
theorem more_lt {X : Nat → Prop} {a b : World} (hX : ∀ k, X k → k < a.heap.size) (h : a.heap.size ≤ b.heap.size) : ∀ k, more X a b k → k < b.heap.size := by
  rintro k (h1 | h1)
  · have := hX k h1; omega
  · exact h1.2
theorem row_others {k : IntKind} {e B : Nat} {w w' : World} {v : Value} {xs : List Int} {Y : Nat → Prop} (h : Row k e B w v xs) (hb : ButX Y w w') (hy : ∀ g, v.ownBlock = some g → ¬ Y g) : Row k e B w' v xs := by
  have ho : w.ownsRow B e 1 v xs.length _ := h
  refine ⟨ho.1, ?_⟩
  rcases ho.2 with hn | ⟨g, cap, cur, rfl, hB, hgg, r⟩
  · exact .inl hn
  · exact .inr ⟨g, cap, cur, rfl, hB, by rw [hb.block g (Array.getElem?_eq_some_iff.1 hgg).1 (hy g rfl)]; exact hgg, r⟩
/-- A net whose blocks are not those of a frame that was taken. -/
theorem Has.less {X : Nat → Prop} {w : World} {S : Nat} {hosts : Int} {fs : List F} {cut : Int → Int → Int → Bool} {n : Nat} {zs : List (F × Value)} {p : Option Addr} {m c b : Nat} {D : DataW Unit} {d : Value} {xs : List Int}
    (h : Has X w S hosts fs cut n zs p m c b D) (h8 : Own8 X w d xs) (ha : ∀ z ∈ zs, Apart z.2 d) : Has (fun k => X k ∧ d.ownBlock ≠ some k) w S hosts fs cut n zs p m c b D := by
  refine ⟨h.row, ⟨h.xS, own_ne h8.1 h.row (by decide)⟩, ⟨h.xb, fun e => ?_⟩, h.fst, h.len, ⟨h.list.row, fun k hk => ⟨h.list.mine k hk, fun e => ?_⟩, fun z hz => ⟨(h.list.bytes z hz).1, fun k hk => ⟨(h.list.bytes z hz).2 k hk, ?_⟩⟩, h.list.apart⟩, h.map, h.says, h.ok, h.few, h.hosts⟩
  · obtain ⟨cur, hc⟩ := own_at h8.1 e
    obtain ⟨es, clock, h5, _⟩ := h.map
    rw [show w.heap[b]? = _ from hc] at h5
    cases h5
  · obtain ⟨cur, hc⟩ := own_at h.list.row hk
    exact own_ne h8.1 hc (by decide) e
  · exact ha z hz k hk
theorem xor8_zero (x : Int) (hx : 0 ≤ x ∧ x ≤ 255) : bits .xor .u8 x 0 = x := by
  rw [u8_xor x 0 hx.1 (by omega) (by omega) (by omega)]
  simp
  omega
/-- The second of two same frames, turned. -/
def f2 (f : F) (b : Int) : F := if b = 0 then f else turnF f 0 b
theorem turn_two (f : F) (b : Int) (ht : f.turned = false) (hl : 0 < f.bytes.length) : turnE [f, f] 1 0 b = (if b = 0 then 1 else 0) ∧ turnL [f, f] 1 0 b = [f, f2 f b] := by
  have e0 : takeF [f, f] 1 = f := rfl
  have e1 : turnE [f, f] 1 0 b = (if b = 0 then 1 else 0) := by
    unfold turnE
    rw [show inB [f, f].length 1 = true from rfl, if_pos rfl, e0, show inB f.bytes.length 0 = true from by unfold inB; exact decide_eq_true (by omega), ht]
    by_cases h : b = 0 <;> simp [h]
  refine ⟨e1, ?_⟩
  unfold turnL
  rw [e1, e0]
  unfold f2
  by_cases h : b = 0 <;> simp [h]
theorem f2_get (f : F) (b : Int) (hf : f.ok) (hl : 0 < f.bytes.length) : (f2 f b).bytes.length = f.bytes.length ∧ (f2 f b).bytes.getD 0 0 = bits .xor .u8 (f.bytes.getD 0 0) b := by
  have hx : 0 ≤ f.bytes.getD 0 0 ∧ f.bytes.getD 0 0 ≤ 255 := hf.2 _ (by simp [hl])
  unfold f2
  split
  · next h => subst h; exact ⟨rfl, (xor8_zero _ hx).symm⟩
  · refine ⟨by simp [turnF], ?_⟩
    simp [turnF, xor8, hl]
set_option maxRecDepth 100000 in
set_option maxHeartbeats 600000 in
theorem apart_ (p : Option Addr) (l c : Nat) (xs : List Int) (b : Int) (w : World) (hr : Reads .u8 w (.slice p l c) xs) (hl : xs.length = l) (hx : ∀ x ∈ xs, 0 ≤ x ∧ x ≤ 255) (hb : 0 ≤ b ∧ b ≤ 255) : Calls Try.prog 7 #[.slice p l c, .int .u8 b] w fun e w' => e = .returned (.bool true) ∧ Below w.heap.size w w' := by
  have PN := Lib.hid (New 2 w (by omega))
  have hl63 : l ≤ 9223372036854775807 := by obtain ⟨p', c', _, h1, h2, _⟩ := hr; have : c' ≤ 9223372036854775807 := h2; omega
  have K1 := Lib.hid (rfl : w = w)
  have K2 := K1
  by_cases hbig : 4096 < l ∨ l = 0
  · have hbig' : (4096 < l) ∨ (l = 0) := hbig
    rcases hbig' with h4 | rfl
    all_goals
      clear hbig hr hl hx
      go_enter Try.func7, Try.ntmps7
      go_wp2_with (first
        | (go_at_call 8; go_must (refine PN.out.mono ?_; rintro e w1 ⟨rfl, hN, hb1⟩; clear hN PN))
        | (go_at_call 9; have _t := K1; clear _t; go_must (refine (answers _).mono ?_; clear K1; rintro e w2 ⟨rfl, hb⟩; have hu2 := hb1.trans (hb.mono hb1.size); clear hb1 hb))
        | (go_at_call 9; have _t := K2; clear _t; go_must (refine (answers _).mono ?_; clear K2; rintro e w3 ⟨rfl, hb⟩; have hu3 := hu2.trans (hb.mono hu2.size); clear hu2 hb)))
      go_ret
      exact ⟨rfl, hu3⟩
  have hl0 : 0 < l := by omega
  have hl4 : l ≤ 4096 := by omega
  have t0 : ((l : Int) == 0) = false := by simp; omega
  have t4 : decide (4096 < (l : Int)) = false := decide_eq_false (by omega)
  clear hbig
  obtain ⟨f, hf⟩ : ∃ f : F, f = ⟨0, 0, 1, 0, xs, false⟩ := ⟨_, rfl⟩
  have hfo : f.ok := by rw [hf]; exact ⟨by show xs.length ≤ 4096; omega, hx⟩
  have hfb : f.bytes = xs := by rw [hf]
  have ES := Lib.hid (show sendE 2 0 0 1 0 xs = 0 by unfold sendE; rw [if_pos (show sendArg 2 0 0 1 0 = true from rfl), if_neg (by omega)])
  have EL := Lib.hid (show sendL 2 (fun _ _ _ => false) 0 0 1 0 xs [] = [f] by unfold sendL; rw [ES.out, hf]; rfl)
  have ET := Lib.hid (turn_two f b (by rw [hf]) (by rw [hfb]; omega))
  have HX := Lib.hid (And.intro hr (And.intro hl hx))
  obtain ⟨bb, off, rfl, hbb, hcell⟩ : ∃ bb off, p = some ⟨bb, off, none⟩ ∧ bb < w.heap.size ∧ w.cell? ⟨bb, off, none⟩ = some (.int .u8 (xs.getD 0 0)) := by
    obtain ⟨p', c', e, h1, h2, h3, h4⟩ := hr
    cases e
    obtain ⟨bb, off, rfl, hbb, hcell⟩ := h4 (by omega)
    exact ⟨bb, off, rfl, hbb, by have := hcell 0 (by omega); simpa using this⟩
  have HF := Lib.hid (And.intro hf (And.intro hfo hfb))
  have HXL := Lib.hid (show xs.length ≤ 9223372036854775807 by omega)
  have HM1 := Lib.hid (show ([] : List Int).length + xs.length ≤ maxLen by simp [maxLen]; omega)
  have HM2 := Lib.hid (show (([] : List Int).length + xs.length) * 1 ≤ 140737488355328 by simp; omega)
  obtain ⟨x0, hx0⟩ : ∃ x0, xs.getD 0 0 = x0 := ⟨_, rfl⟩
  have bx : 0 ≤ x0 ∧ x0 ≤ 255 := by rw [← hx0]; exact hx _ (by simp [show 0 < xs.length by omega])
  have HX0 := Lib.hid hx0
  rw [hx0] at hcell
  have HBB := Lib.hid (And.intro hbb hcell)
  have HG2 := Lib.hid (f2_get f b hfo (by rw [hfb]; omega))
  clear hr hl hx hf hfo hfb hx0 hbb hcell
  go_enter Try.func7, Try.ntmps7
  go_upto_region 5 with (first
    | (go_at_call 8; go_must (refine PN.out.mono ?_; rintro e w1 ⟨rfl, hN, hb1⟩; have hN1 := Lib.hid hN; clear hN PN))
    | (go_at_call 9; go_must (refine (answers _).mono ?_; rintro e w2 ⟨rfl, hb⟩; have hu2 := hb1.trans (hb.mono hb1.size); have hT1 := Lib.hid (And.intro hb1.size hb.size); have hN2 := Lib.hid (hN1.out.below hb); clear hb1 hb hN1))
    | ((with_reducible refine wpl_empty rfl 31 5 rfl .u8 (fun _ => by kernel_rfl) ?_); go_must (intro w3 hr3 hb3 hs3; have HS3 := Lib.hid hs3; clear hs3; have HR3 := Lib.hid hr3; have HB3 := Lib.hid hb3; clear hr3 hb3))
    | (at_builtin; go_must (have hsr := (HX.out.1.below hu2).below HB3.out; have hub := HB3.out.size; obtain ⟨i0, hi, hz0, hz1, hz2⟩ := info_parts info5; refine wpl_append rfl (.tmp 40) (.tmp 41) 31 rfl .u8 _ 5 1 i0 (.int .u8 0) Try.underlying31 hi hz0 hz1 hz2 rfl _ _ [] xs rfl rfl HR3.out hsr HM1.out HM2.out hub ?_; clear hi hz0 hz1 hz2 hsr hub; intro v7 w4 hr4 hg4; rw [List.nil_append] at hr4; have hB4 := HB3.out.grown hg4 HB3.out.size (fun q e => (HR3.out.lt q e).1); have hN4 := Lib.hid (hN2.out.below hB4); have hu4 := hu2.trans (hB4.mono hu2.size); obtain ⟨p7, c7, e7, _⟩ := id hr4.reads; rw [HX.out.2.1] at e7; subst e7; have HR4 := Lib.hid hr4; have HT4 := Lib.hid (And.intro hu2.size hB4.size); clear hB4 hg4 hr4 hu2 hN2 HR3 HB3 HS3)))
  go_upto_region 6 with (go_at_call 12; go_must (refine (SendX hN4.out 0 0 1 0 (.slice p7 l c7) xs HR4.out.reads HX.out.2.2 HXL.out).mono ?_; rintro e w5 ⟨h1, hN5, hb5⟩; rw [ES.out] at h1; subst h1; rw [EL.out] at hN5))
  obtain ⟨g7, e7, hlx, hge7, hlt7⟩ := HR4.out.form (by rw [HX.out.2.1]; exact hl0)
  subst e7
  clear hlx
  have HG7 := Lib.hid (And.intro hge7 hlt7)
  clear hge7 hlt7
  have hX1 : ∀ k, more (fun _ => False) w w1 k → w.heap.size ≤ k ∧ k < w2.heap.size := by
    rintro k (h | h)
    · exact h.elim
    · exact ⟨h.1, by have := hT1.out; omega⟩
  have hr5 := row_others HR4.out hb5 (fun q e h => by have e' : g7 = q := Option.some.inj e; have h2 := hX1 q h; have h3 := HG7.out; omega)
  have k0 := (Row.cell (c := c7) (by rw [HX.out.2.1]; exact hr5) 0 (by rw [HX.out.2.1]; exact hl0)).1
  rw [HX0.out] at k0
  have hu5 := hu4.trans (hb5.below (B := w.heap.size) (fun k h => (hX1 k h).1) hu4.size)
  have HR5 := Lib.hid hr5
  have HX5 := Lib.hid (show ∀ k, more (more (fun _ => False) w w1) w4 w5 k → w.heap.size ≤ k ∧ k < w5.heap.size ∧ k ≠ g7 by
    have h3 := HG7.out
    have h4 := hb5.size
    have h5 := hu4.size
    rintro k (h | h)
    · have h2 := hX1 k h
      exact ⟨by omega, by omega, by omega⟩
    · exact ⟨by omega, by omega, by omega⟩)
  obtain ⟨X5, hX5⟩ : ∃ X5, more (more (fun _ => False) w w1) w4 w5 = X5 := ⟨_, rfl⟩
  rw [hX5] at hN5 HX5
  have HN5 := Lib.hid hN5
  clear hX1 hb5 hN4 hu4 hr5 hX5 hN5
  go_upto_region 7 with ((with_reducible refine wpl_storeB rfl 5 (.tmp 53) (.tmp 52) rfl rfl .u8 w2.heap.size 5 g7 l c7 0 xs ((x0 + 1) % 256) ?_ ?_ HR5.out HX.out.2.1.symm ?_ (by kernel_rfl) ?_); rfl; rfl; (rw [HX.out.2.1]; exact hl0); go_must (intro w6 hr6 hg6; clear hr6 k0))
  have HN6 := Lib.hid (HN5.out.others (ButX.ofGrown (X := fun k => k = g7) hg6 (fun k e => (Option.some.inj e).symm)) (fun k hk e => (HX5.out k hk).2.2 e))
  have hu6 := below_grown hu5 hg6 hu5.size (by have := HG7.out; have := hT1.out; omega)
  have HX6 := Lib.hid (show ∀ k, X5 k → w.heap.size ≤ k ∧ k < w6.heap.size from fun k hk => ⟨(HX5.out k hk).1, by have := (HX5.out k hk).2.1; have := hg6.size; omega⟩)
  clear HN5 hu5 HX5 HR5 HR4 hg6
  go_upto_region 8 with (go_at_call 15; go_must (refine (TwinOk HN6.out 0 (show 0 < 1 by decide) (show 1 < 1024 by decide)).mono ?_; rintro e w7 ⟨rfl, ⟨f', hf', hN7⟩, hb7⟩))
  obtain rfl : f = f' := Option.some.inj hf'
  have HX7 := Lib.hid (show ∀ k, more X5 w6 w7 k → w.heap.size ≤ k ∧ k < w7.heap.size from fun k hk => ⟨more_from (B := w.heap.size) (fun k hk => (HX6.out k hk).1) hu6.size k hk, more_lt (fun k hk => (HX6.out k hk).2) hb7.size k hk⟩)
  have hu7 := hu6.trans (hb7.below (B := w.heap.size) (fun k hk => (HX6.out k hk).1) hu6.size)
  obtain ⟨X7, hX7⟩ : ∃ X7, more X5 w6 w7 = X7 := ⟨_, rfl⟩
  rw [hX7] at hN7 HX7
  have HN7 := Lib.hid (show Net X7 w7 (w.heap.size + 1) 2 [f, f] (fun _ _ _ => false) 0 from hN7)
  clear HX6 HN6 hu6 hb7 hN7 hX7 hf'
  go_upto_region 9 with (go_at_call 18; go_must (refine (ListX HN7.out).mono ?_; rintro e w8 ⟨v8, zs8, rfl, hO8, hz8, hb8⟩))
  obtain ⟨d0, d1, rfl⟩ : ∃ d0 d1, zs8 = [(f, d0), (f, d1)] := by
    match zs8, hz8 with
    | [(a0, d0), (a1, d1)], h => simp at h; obtain ⟨rfl, rfl⟩ := h; exact ⟨d0, d1, rfl⟩
  obtain ⟨g8, c8, ev8, hg8, hX8, _, hra8, h80⟩ := hO8.elem 0 (f, d0) rfl
  rename_i hlc8
  clear hlc8
  simp only [List.length_cons, List.length_nil] at ev8
  subst ev8
  have h80r := h80.1
  obtain ⟨pd, cd, ed, _⟩ := id h80r.reads
  simp only at ed h80r
  rw [HF.out.2.2] at ed h80r
  subst ed
  obtain ⟨gd, ed, hlx, _, hgd⟩ := h80r.form (by rw [HX.out.2.1]; exact hl0)
  subst ed
  clear hlx
  rw [HX.out.2.1] at h80r hra8
  have hgd7 : w7.heap.size ≤ gd := h80.2 gd rfl
  have kd := (Row.cell (c := cd) (by rw [HX.out.2.1]; exact h80r) 0 (by rw [HX.out.2.1]; exact hl0)).1
  rw [HX0.out] at kd
  have c84 := hra8 4 _ rfl
  simp at c84
  have hu8 := hu7.trans (hb8.mono hu7.size)
  have HN8 := Lib.hid (HN7.out.below hb8)
  have HX8 := Lib.hid (show (∀ k, X7 k → w.heap.size ≤ k ∧ k < gd) ∧ w7.heap.size ≤ gd from ⟨fun k hk => ⟨(HX7.out k hk).1, by have := (HX7.out k hk).2; omega⟩, hgd7⟩)
  have HT7 := Lib.hid hu7.size
  have HR8 := Lib.hid h80r
  have HS8 := Lib.hid hb8.size
  clear hO8 hz8 hb8 hra8 h80 h80r HN7 hu7 hgd7 hX8
  go_still_tail 12, (by kernel_rfl)
  change wpList _ _ _ _ _ w8.drew
  have hbd : Below w8.heap.size w8 w8.drew := (Below.refl _ _).drew
  have HN9 := Lib.hid (HN8.out.below hbd)
  have HR9 := Lib.hid (HR8.out.below hbd)
  have hu9 := hu8.trans (hbd.mono hu8.size)
  have HS9 := Lib.hid hbd.size
  generalize w8.drew = w9 at HN9 HR9 hu9 HS9
  clear hbd HN8 HR8 hu8 kd c84
  go_upto_region 10 with ((with_reducible refine wpl_storeB rfl 5 (.tmp 69) (.tmp 68) rfl rfl .u8 0 5 gd l cd 0 xs ((x0 + 2) % 256) ?_ ?_ HR9.out HX.out.2.1.symm ?_ (by kernel_rfl) ?_); rfl; rfl; (rw [HX.out.2.1]; exact hl0); go_must (intro w10 hr10 hg10; clear hr10))
  have HN10 := Lib.hid (HN9.out.others (ButX.ofGrown (X := fun k => k = gd) hg10 (fun k e => (Option.some.inj e).symm)) (fun k hk e => by have := (HX8.out.1 k hk).2; omega))
  have hu10 := below_grown hu9 hg10 hu9.size (by have := HT7.out; have := HX8.out.2; omega)
  have HX10 := Lib.hid (show ∀ k, X7 k → w.heap.size ≤ k from fun k hk => (HX8.out.1 k hk).1)
  have HS10 := Lib.hid hg10.size
  clear HN9 HX8 HR9 hg10 hu9
  have PT := TurnX HN10.out 1 0 b hb (by omega)
  rw [ET.out.1, ET.out.2] at PT
  obtain ⟨r, hrr⟩ : ∃ r : Int, (if b = 0 then 1 else 0) = r := ⟨_, rfl⟩
  obtain ⟨tb, htb⟩ : ∃ tb, (b != 0) = tb := ⟨_, rfl⟩
  have E9 : (r == 0) = tb := by rw [← htb, ← hrr]; by_cases h : b = 0 <;> simp [h]
  rw [hrr] at PT
  have PT := Lib.hid PT
  clear hrr
  go_upto_region 11 with (go_at_call 19; go_must (refine PT.out.mono ?_; rintro e w11 ⟨rfl, hN11, hb11⟩))
  clear PT
  have hu11 := hu10.trans (hb11.below (B := w.heap.size) HX10.out hu10.size)
  have HS11 := Lib.hid (show w7.heap.size ≤ w11.heap.size by have := HS8.out; have := HS9.out; have := HS10.out; have := hb11.size; omega)
  clear HS8 HS9 HS10
  obtain ⟨zs, pz, m, cz, bz, D, h0⟩ := hN11
  obtain ⟨dx, dy, rfl⟩ : ∃ dx dy, zs = [(f, dx), (f2 f b, dy)] := by
    have hz := h0.fst
    match zs, hz with
    | [(a0, d0), (a1, d1)], h => simp at h; obtain ⟨rfl, rfl⟩ := h; exact ⟨d0, d1, rfl⟩
  obtain rfl : 2 = m := h0.len
  obtain ⟨px, cx, rfl⟩ : ∃ px cx, dx = .slice px l cx := by
    obtain ⟨px, cx, e, _⟩ := (h0.list.bytes _ (.head _)).1.reads
    simp only at e
    rw [HF.out.2.2, HX.out.2.1] at e
    exact ⟨px, cx, e⟩
  have HG2 := HG2.out
  rw [HF.out.2.2, HX.out.2.1, HX0.out] at HG2
  have HG2 := Lib.hid HG2
  obtain ⟨gy, cy, rfl⟩ : ∃ gy cy, dy = .slice (some ⟨gy, 0, none⟩) l cy := by
    have h8 := (h0.list.bytes (f2 f b, dy) (.tail _ (.head _))).1
    simp only at h8
    obtain ⟨py, cy, e, _⟩ := h8.reads
    subst e
    obtain ⟨gy, rfl, _, _⟩ := h8.form (by rw [HG2.out.1]; exact hl0)
    exact ⟨gy, cy, by rw [HG2.out.1]⟩
  have P1 := Lib.hid (show Calls Try.prog 14 #[.pointer (some ⟨w.heap.size + 1, 0, none⟩), .int .i64 0] w11 fun e w' => e = .returned (.tuple #[.agg (rowF f (.slice px l cx)).toArray, .int .i64 0]) ∧ (∃ p' c', Has X7 w' (w.heap.size + 1) 2 [f2 f b] (fun _ _ _ => false) 0 [(f2 f b, .slice (some ⟨gy, 0, none⟩) l cy)] p' 1 c' bz D) ∧ Own8 X7 w' (.slice px l cx) f.bytes ∧ ButX X7 w11 w' from TakeZ h0 0 (by decide) _ rfl)
  have HA := Lib.hid (show ∀ y ∈ [(f2 f b, Value.slice (some ⟨gy, 0, none⟩) l cy)], Apart y.2 (.slice px l cx) from h0.list.away_erase 0 _ rfl)
  clear h0 HN10 hu10
  go_upto_region 12 with (first
    | (go_at_call 14; go_must (refine P1.out.mono ?_; clear P1; rintro e w12 ⟨rfl, ⟨p12, c12, h12⟩, h8x, hb12⟩; have HH := Lib.hid (And.intro h12 (And.intro h8x hb12)); clear h12 h8x hb12))
    | ((with_reducible refine wpl_allocAt rfl 35 rfl zero35 (by kernel_rfl) ?_); go_must (intro w13 hat13 hb13 hs13; clear hs13))
    | ((with_reducible refine wpl_storeR rfl 35 (.tmp 10) (.tmp 77) rfl rfl w12.heap.size 35 zero35 (rowF f (.slice px l cx)).toArray ?_ ?_ hat13 (by kernel_rfl) ?_ ?_ ?_); rfl; rfl; rfl; (exact rowF_one _ _ rfl); go_must (intro w14 hat14 hg14; have hb14 := below_grown hb13 hg14 hb13.size (Nat.le_refl _); clear hat13 hb13 hg14)))
  obtain ⟨h12, h8x, hb12⟩ := HH.out
  have hu12 := hu11.trans (hb12.below (B := w.heap.size) (fun k hk => (HX7.out k hk).1) hu11.size)
  have hu14 := hu12.trans (hb14.mono hu12.size)
  have h14 := (h12.less h8x HA.out).below hb14
  have hS12 := hb12.size
  have HX14 := Lib.hid (show ∀ k, (X7 k ∧ (Value.slice px l cx).ownBlock ≠ some k) → w.heap.size ≤ k ∧ k < w12.heap.size from fun k hk => by have := HX7.out k hk.1; have := HS11.out; omega)
  have HR14 := Lib.hid (h8x.1.below hb14)
  have HAT14 := Lib.hid hat14
  have P2 := Lib.hid (show Calls Try.prog 14 #[.pointer (some ⟨w.heap.size + 1, 0, none⟩), .int .i64 0] w14 fun e w' => e = .returned (.tuple #[.agg (rowF (f2 f b) (.slice (some ⟨gy, 0, none⟩) l cy)).toArray, .int .i64 0]) ∧ (∃ p' c', Has _ w' (w.heap.size + 1) 2 [] (fun _ _ _ => false) 0 [] p' 0 c' bz D) ∧ Own8 (fun k => X7 k ∧ (Value.slice px l cx).ownBlock ≠ some k) w' (.slice (some ⟨gy, 0, none⟩) l cy) (f2 f b).bytes ∧ ButX (fun k => X7 k ∧ (Value.slice px l cx).ownBlock ≠ some k) w14 w' from TakeZ h14 0 (by decide) _ rfl)
  clear hu11 hu12 h12 h8x hb12 HH h14 hS12 hb14 hat14 HA hb11
  go_upto_region 13 with (first
    | (go_at_call 14; go_must (refine P2.out.mono ?_; clear P2; rintro e w15 ⟨rfl, _, h8y, hb15⟩; have HH := Lib.hid (And.intro h8y hb15); clear h8y hb15))
    | ((with_reducible refine wpl_allocAt rfl 35 rfl zero35 (by kernel_rfl) ?_); go_must (intro w16 hat16 hb16 hs16; clear hs16))
    | ((with_reducible refine wpl_storeR rfl 35 (.tmp 12) (.tmp 82) rfl rfl w15.heap.size 35 zero35 (rowF (f2 f b) (.slice (some ⟨gy, 0, none⟩) l cy)).toArray ?_ ?_ hat16 (by kernel_rfl) ?_ ?_ ?_); rfl; rfl; rfl; (exact rowF_one _ _ rfl); go_must (intro w17 hat17 hg17; have hb17 := below_grown hb16 hg17 hb16.size (Nat.le_refl _); clear hat16 hb16 hg17)))
  obtain ⟨h8y, hb15⟩ := HH.out
  have hu15 := hu14.trans (hb15.below (B := w.heap.size) (fun k hk => (HX14.out k hk).1) hu14.size)
  have hu17 := hu15.trans (hb17.mono hu15.size)
  have rx := (row_others HR14.out hb15 (fun q e h => h.2 e)).below hb17
  have ry := h8y.1.below hb17
  have atx : At w17 w12.heap.size 35 (rowF f (.slice px l cx)).toArray := by
    have h := HAT14.out
    unfold At at h ⊢
    have hlt : w12.heap.size < w14.heap.size := HAT14.out.lt
    rw [hb17.block _ (by have := hb15.size; omega), hb15.block _ hlt (fun hk => by have := (HX14.out _ hk).2; omega)]
    exact h
  have k1 := atx.cell 4
  have k2 := hat17.cell 4
  simp [rowF] at k1 k2
  have k3 := (Row.cell (c := cy) (by rw [HG2.out.1]; exact ry) 0 (by rw [HG2.out.1]; exact hl0)).1
  rw [HG2.out.2] at k3
  have k4 := (hu17.cell (p := ⟨bb, off, none⟩) HBB.out.1).trans HBB.out.2
  have HK := Lib.hid (And.intro k1 (And.intro k2 (And.intro k3 k4)))
  have HL := Lib.hid (And.intro atx.lt (And.intro hat17.lt (And.intro (show gy < w17.heap.size from (ry.lt gy rfl).2) (show bb < w17.heap.size by have := HBB.out.1; have := hu17.size; omega))))
  have HRX := Lib.hid (And.intro rx.reads (HX.out.1.below hu17))
  have hv := Below.refl w17.heap.size w17
  have HU17 := Lib.hid hu17
  clear HH h8y hb15 hu14 hu15 hb17 rx ry atx k1 k2 k3 k4 hat17 HAT14 HR14 hu17
  go_upto_region 17 with (first
    | (go_at_call 14; go_must (refine (TakeNil _ _).mono ?_; rintro e u14 ⟨rfl, hb14⟩; have hv14 := hv.trans (hb14.mono hv.size); clear hv hb14; have hv := hv14; clear hv14))
    | ((with_reducible refine wpl_allocAt rfl 35 rfl zero35 (by kernel_rfl) ?_); go_must (intro v16 hat16 hb16 hs16; clear hs16; have HV16 := Lib.hid hb16; clear hb16))
    | ((with_reducible refine wpl_storeR rfl 35 (.tmp 16) (.tmp 87) rfl rfl u14.heap.size 35 zero35 zero35 ?_ ?_ hat16 (by kernel_rfl) ?_ ?_ ?_); rfl; rfl; rfl; (simp [zero35, Value.oneCell']); go_must (intro v18 hat18 hg18; have hb18 := below_grown HV16.out hg18 HV16.out.size (Nat.le_refl _); have hv18 := hv.trans (hb18.mono hv.size); clear hv hat16 hat18 hg18 hb18 HV16; have hv := hv18; clear hv18))
    | (go_at_call 12; go_must (refine (SendNil _ _ _ _ _ _).mono ?_; rintro e u12 ⟨rfl, hb12⟩; have hv12 := hv.trans (hb12.mono hv.size); clear hv hb12; have hv := hv12; clear hv12))
    | (go_at_call 15; go_must (refine (TwinNil _ _).mono ?_; rintro e u15 ⟨rfl, rfl⟩))
    | (go_at_call 20; go_must (refine (LastNil _ _).mono ?_; rintro e u20 ⟨rfl, hb20⟩; have hv20 := hv.trans (hb20.mono hv.size); clear hv hb20; have hv := hv20; clear hv20))
    | (go_at_call 19; go_must (refine (TurnNil _ _ _ _).mono ?_; rintro e u19 ⟨rfl, rfl⟩))
    | (go_at_call 13; go_must (refine (CutNil _ _ _ _ _).mono ?_; rintro e u13 ⟨rfl, hb13⟩; have hv13 := hv.trans (hb13.mono hv.size); clear hv hb13; have hv := hv13; clear hv13))
    | (go_at_call 11; go_must (refine (LenNil _).mono ?_; rintro e u11 ⟨rfl, rfl⟩))
    | (go_at_call 18; go_must (refine (ListNil _).mono ?_; rintro e u18 ⟨rfl, rfl⟩)))
  obtain ⟨w0, rfl⟩ : ∃ w0, w0 = u18 := ⟨_, rfl⟩
  have HV := Lib.hid hv
  clear hv
  have tbb : (tb == tb) = true := by simp
  refine Mono.wp_region_mono [some 135, some 136, some 137, some 138, some 139, some 140, some 141, some 142, some 143, some 144, some 145, some 146, some 147, some 148, some 149, some 150, some 151, some 152, some 153, some 154, some 155, some 156, some 157, some 158, some 159, some 160, some 161, some 4] [Mono.isV (.pointer (some ⟨w12.heap.size, 4, none⟩)), Mono.isV (.slice px l cx), Mono.isV (.string (strOfNums xs)), Mono.isV (.slice (some ⟨bb, off, none⟩) l c), Mono.isV (.string (strOfNums xs)), Mono.isV (.bool true), Mono.isV (.bool true), Mono.isV (.bool tb), Mono.isV (.int .u8 b), Mono.isV (.bool tb), Mono.isV (.bool true), Mono.isV (.bool true), Mono.isV (.bool true), Mono.isV (.pointer (some ⟨w15.heap.size, 4, none⟩)), Mono.isV (.slice (some ⟨gy, 0, none⟩) l cy), Mono.isV (.pointer (some ⟨gy, 0, none⟩)), Mono.isV (.int .u8 (bits .xor .u8 x0 b)), Mono.isV (.slice (some ⟨bb, off, none⟩) l c), Mono.isV (.pointer (some ⟨bb, off, none⟩)), Mono.isV (.int .u8 x0), Mono.isV (.int .u8 b), Mono.isV (.int .u8 (bits .xor .u8 x0 b)), Mono.isV (.bool true), Mono.isV (.bool true), Mono.isV (.bool true), Mono.isV (.bool true), Mono.isV (.bool true), Mono.isV (.bool true)] (by kernel_rfl) (by kernel_rfl) ?_ ?_
  · simp only [Mono.OpGoals, and_true]
    refine ⟨?_, ?_, ?_, ?_, ?_, ?_, ?_, ?_, ?_, ?_, ?_, ?_, ?_, ?_, ?_, ?_, ?_, ?_, ?_, ?_, ?_, ?_, ?_, ?_, ?_, ?_, ?_, ?_⟩
    · intro a u hbu hsu hdu
      have hbw := HV.out.trans (hbu.mono HV.out.size); have k1 := (hbw.cell (p := ⟨w12.heap.size, 4, none⟩) HL.out.1).trans HK.out.1; have k2 := (hbw.cell (p := ⟨w15.heap.size, 4, none⟩) HL.out.2.1).trans HK.out.2.1; have k3 := (hbw.cell (p := ⟨gy, 0, none⟩) HL.out.2.2.1).trans HK.out.2.2.1; have k4 := (hbw.cell (p := ⟨bb, off, none⟩) HL.out.2.2.2).trans HK.out.2.2.2
      refine Mono.if_want rfl ?_
      have z10 : a.eval (.tmp 10) = .pointer (some ⟨w12.heap.size, 0, none⟩) := hsu 10 (by decide)
      simp [Act.eval] at z10
      exact Mono.ok_val (.pointer (some ⟨w12.heap.size, 4, none⟩)) (by simp [execOp, z10, go_sem, k1, k2, k3, k4, hl0, htb, tbb]) rfl
    · intro a u hbu hsu hdu
      have hbw := HV.out.trans (hbu.mono HV.out.size); have k1 := (hbw.cell (p := ⟨w12.heap.size, 4, none⟩) HL.out.1).trans HK.out.1; have k2 := (hbw.cell (p := ⟨w15.heap.size, 4, none⟩) HL.out.2.1).trans HK.out.2.1; have k3 := (hbw.cell (p := ⟨gy, 0, none⟩) HL.out.2.2.1).trans HK.out.2.2.1; have k4 := (hbw.cell (p := ⟨bb, off, none⟩) HL.out.2.2.2).trans HK.out.2.2.2
      refine Mono.if_want rfl ?_
      have z135 : a.eval (.tmp 135) = .pointer (some ⟨w12.heap.size, 4, none⟩) := Mono.dep_at hdu (i := 0) (d := 135) rfl rfl rfl
      simp [Act.eval] at z135
      exact Mono.ok_val (.slice px l cx) (by simp [execOp, z135, go_sem, k1, k2, k3, k4, hl0, htb, tbb]) rfl
    · intro a u hbu hsu hdu
      have hbw := HV.out.trans (hbu.mono HV.out.size); have k1 := (hbw.cell (p := ⟨w12.heap.size, 4, none⟩) HL.out.1).trans HK.out.1; have k2 := (hbw.cell (p := ⟨w15.heap.size, 4, none⟩) HL.out.2.1).trans HK.out.2.1; have k3 := (hbw.cell (p := ⟨gy, 0, none⟩) HL.out.2.2.1).trans HK.out.2.2.1; have k4 := (hbw.cell (p := ⟨bb, off, none⟩) HL.out.2.2.2).trans HK.out.2.2.2
      refine Mono.if_want rfl ?_
      have z136 : a.eval (.tmp 136) = .slice px l cx := Mono.dep_at hdu (i := 1) (d := 136) rfl rfl rfl
      exact Mono.ok_conv 31 9 (.tmp 136) rfl _ (by rw [z136]; exact string31 (by have := HRX.out.1.below hbw; rw [HF.out.2.2] at this; exact this)) rfl
    · intro a u hbu hsu hdu
      have hbw := HV.out.trans (hbu.mono HV.out.size); have k1 := (hbw.cell (p := ⟨w12.heap.size, 4, none⟩) HL.out.1).trans HK.out.1; have k2 := (hbw.cell (p := ⟨w15.heap.size, 4, none⟩) HL.out.2.1).trans HK.out.2.1; have k3 := (hbw.cell (p := ⟨gy, 0, none⟩) HL.out.2.2.1).trans HK.out.2.2.1; have k4 := (hbw.cell (p := ⟨bb, off, none⟩) HL.out.2.2.2).trans HK.out.2.2.2
      refine Mono.if_want rfl ?_
      exact Mono.ok_move (.tmp 0) rfl (hsu 0 (by decide))
    · intro a u hbu hsu hdu
      have hbw := HV.out.trans (hbu.mono HV.out.size); have k1 := (hbw.cell (p := ⟨w12.heap.size, 4, none⟩) HL.out.1).trans HK.out.1; have k2 := (hbw.cell (p := ⟨w15.heap.size, 4, none⟩) HL.out.2.1).trans HK.out.2.1; have k3 := (hbw.cell (p := ⟨gy, 0, none⟩) HL.out.2.2.1).trans HK.out.2.2.1; have k4 := (hbw.cell (p := ⟨bb, off, none⟩) HL.out.2.2.2).trans HK.out.2.2.2
      refine Mono.if_want rfl ?_
      have z138 : a.eval (.tmp 138) = .slice (some ⟨bb, off, none⟩) l c := Mono.dep_at hdu (i := 3) (d := 138) rfl rfl rfl
      exact Mono.ok_conv 31 9 (.tmp 138) rfl _ (by rw [z138]; exact string31 (HRX.out.2.below hbw)) rfl
    · intro a u hbu hsu hdu
      have hbw := HV.out.trans (hbu.mono HV.out.size); have k1 := (hbw.cell (p := ⟨w12.heap.size, 4, none⟩) HL.out.1).trans HK.out.1; have k2 := (hbw.cell (p := ⟨w15.heap.size, 4, none⟩) HL.out.2.1).trans HK.out.2.1; have k3 := (hbw.cell (p := ⟨gy, 0, none⟩) HL.out.2.2.1).trans HK.out.2.2.1; have k4 := (hbw.cell (p := ⟨bb, off, none⟩) HL.out.2.2.2).trans HK.out.2.2.2
      refine Mono.if_want rfl ?_
      have z137 : a.eval (.tmp 137) = .string (strOfNums xs) := Mono.dep_at hdu (i := 2) (d := 137) rfl rfl rfl
      simp [Act.eval] at z137
      have z139 : a.eval (.tmp 139) = .string (strOfNums xs) := Mono.dep_at hdu (i := 4) (d := 139) rfl rfl rfl
      simp [Act.eval] at z139
      exact Mono.ok_val (.bool true) (by simp [execOp, z137, z139, go_sem, k1, k2, k3, k4, hl0, htb, tbb]) rfl
    · intro a u hbu hsu hdu
      have hbw := HV.out.trans (hbu.mono HV.out.size); have k1 := (hbw.cell (p := ⟨w12.heap.size, 4, none⟩) HL.out.1).trans HK.out.1; have k2 := (hbw.cell (p := ⟨w15.heap.size, 4, none⟩) HL.out.2.1).trans HK.out.2.1; have k3 := (hbw.cell (p := ⟨gy, 0, none⟩) HL.out.2.2.1).trans HK.out.2.2.1; have k4 := (hbw.cell (p := ⟨bb, off, none⟩) HL.out.2.2.2).trans HK.out.2.2.2
      refine Mono.if_want rfl ?_
      exact Mono.ok_move (.tmp 140) rfl (Mono.dep_at hdu (i := 5) (d := 140) rfl rfl rfl)
    · intro a u hbu hsu hdu
      have hbw := HV.out.trans (hbu.mono HV.out.size); have k1 := (hbw.cell (p := ⟨w12.heap.size, 4, none⟩) HL.out.1).trans HK.out.1; have k2 := (hbw.cell (p := ⟨w15.heap.size, 4, none⟩) HL.out.2.1).trans HK.out.2.1; have k3 := (hbw.cell (p := ⟨gy, 0, none⟩) HL.out.2.2.1).trans HK.out.2.2.1; have k4 := (hbw.cell (p := ⟨bb, off, none⟩) HL.out.2.2.2).trans HK.out.2.2.2
      refine Mono.if_want (Mono.want_at (c := true) rfl rfl (Mono.dep_at hdu (i := 6) (d := 141) rfl rfl rfl) rfl) ?_
      exact Mono.ok_move (.tmp 9) rfl (hsu 9 (by decide))
    · intro a u hbu hsu hdu
      have hbw := HV.out.trans (hbu.mono HV.out.size); have k1 := (hbw.cell (p := ⟨w12.heap.size, 4, none⟩) HL.out.1).trans HK.out.1; have k2 := (hbw.cell (p := ⟨w15.heap.size, 4, none⟩) HL.out.2.1).trans HK.out.2.1; have k3 := (hbw.cell (p := ⟨gy, 0, none⟩) HL.out.2.2.1).trans HK.out.2.2.1; have k4 := (hbw.cell (p := ⟨bb, off, none⟩) HL.out.2.2.2).trans HK.out.2.2.2
      refine Mono.if_want (Mono.want_at (c := true) rfl rfl (Mono.dep_at hdu (i := 6) (d := 141) rfl rfl rfl) rfl) ?_
      exact Mono.ok_move (.tmp 1) rfl (hsu 1 (by decide))
    · intro a u hbu hsu hdu
      have hbw := HV.out.trans (hbu.mono HV.out.size); have k1 := (hbw.cell (p := ⟨w12.heap.size, 4, none⟩) HL.out.1).trans HK.out.1; have k2 := (hbw.cell (p := ⟨w15.heap.size, 4, none⟩) HL.out.2.1).trans HK.out.2.1; have k3 := (hbw.cell (p := ⟨gy, 0, none⟩) HL.out.2.2.1).trans HK.out.2.2.1; have k4 := (hbw.cell (p := ⟨bb, off, none⟩) HL.out.2.2.2).trans HK.out.2.2.2
      refine Mono.if_want (Mono.want_at (c := true) rfl rfl (Mono.dep_at hdu (i := 6) (d := 141) rfl rfl rfl) rfl) ?_
      have z143 : a.eval (.tmp 143) = .int .u8 b := Mono.dep_at hdu (i := 8) (d := 143) rfl rfl rfl
      simp [Act.eval] at z143
      exact Mono.ok_val (.bool tb) (by simp [execOp, z143, go_sem, k1, k2, k3, k4, hl0, htb, tbb]) rfl
    · intro a u hbu hsu hdu
      have hbw := HV.out.trans (hbu.mono HV.out.size); have k1 := (hbw.cell (p := ⟨w12.heap.size, 4, none⟩) HL.out.1).trans HK.out.1; have k2 := (hbw.cell (p := ⟨w15.heap.size, 4, none⟩) HL.out.2.1).trans HK.out.2.1; have k3 := (hbw.cell (p := ⟨gy, 0, none⟩) HL.out.2.2.1).trans HK.out.2.2.1; have k4 := (hbw.cell (p := ⟨bb, off, none⟩) HL.out.2.2.2).trans HK.out.2.2.2
      refine Mono.if_want (Mono.want_at (c := true) rfl rfl (Mono.dep_at hdu (i := 6) (d := 141) rfl rfl rfl) rfl) ?_
      have z142 : a.eval (.tmp 142) = .bool tb := Mono.dep_at hdu (i := 7) (d := 142) rfl rfl rfl
      simp [Act.eval] at z142
      have z144 : a.eval (.tmp 144) = .bool tb := Mono.dep_at hdu (i := 9) (d := 144) rfl rfl rfl
      simp [Act.eval] at z144
      exact Mono.ok_val (.bool true) (by simp [execOp, z142, z144, go_sem, k1, k2, k3, k4, hl0, htb, tbb]) rfl
    · intro a u hbu hsu hdu
      have hbw := HV.out.trans (hbu.mono HV.out.size); have k1 := (hbw.cell (p := ⟨w12.heap.size, 4, none⟩) HL.out.1).trans HK.out.1; have k2 := (hbw.cell (p := ⟨w15.heap.size, 4, none⟩) HL.out.2.1).trans HK.out.2.1; have k3 := (hbw.cell (p := ⟨gy, 0, none⟩) HL.out.2.2.1).trans HK.out.2.2.1; have k4 := (hbw.cell (p := ⟨bb, off, none⟩) HL.out.2.2.2).trans HK.out.2.2.2
      refine Mono.if_want rfl ?_
      have z141 : a.eval (.tmp 141) = .bool true := Mono.dep_at hdu (i := 6) (d := 141) rfl rfl rfl
      simp [Act.eval] at z141
      have z145 : a.eval (.tmp 145) = .bool true := Mono.dep_at hdu (i := 10) (d := 145) rfl rfl rfl
      simp [Act.eval] at z145
      exact Mono.ok_val (.bool true) (by simp [execOp, z141, z145, go_sem, k1, k2, k3, k4, hl0, htb, tbb]) rfl
    · intro a u hbu hsu hdu
      have hbw := HV.out.trans (hbu.mono HV.out.size); have k1 := (hbw.cell (p := ⟨w12.heap.size, 4, none⟩) HL.out.1).trans HK.out.1; have k2 := (hbw.cell (p := ⟨w15.heap.size, 4, none⟩) HL.out.2.1).trans HK.out.2.1; have k3 := (hbw.cell (p := ⟨gy, 0, none⟩) HL.out.2.2.1).trans HK.out.2.2.1; have k4 := (hbw.cell (p := ⟨bb, off, none⟩) HL.out.2.2.2).trans HK.out.2.2.2
      refine Mono.if_want rfl ?_
      exact Mono.ok_move (.tmp 146) rfl (Mono.dep_at hdu (i := 11) (d := 146) rfl rfl rfl)
    · intro a u hbu hsu hdu
      have hbw := HV.out.trans (hbu.mono HV.out.size); have k1 := (hbw.cell (p := ⟨w12.heap.size, 4, none⟩) HL.out.1).trans HK.out.1; have k2 := (hbw.cell (p := ⟨w15.heap.size, 4, none⟩) HL.out.2.1).trans HK.out.2.1; have k3 := (hbw.cell (p := ⟨gy, 0, none⟩) HL.out.2.2.1).trans HK.out.2.2.1; have k4 := (hbw.cell (p := ⟨bb, off, none⟩) HL.out.2.2.2).trans HK.out.2.2.2
      refine Mono.if_want (Mono.want_at (c := true) rfl rfl (Mono.dep_at hdu (i := 12) (d := 147) rfl rfl rfl) rfl) ?_
      have z12 : a.eval (.tmp 12) = .pointer (some ⟨w15.heap.size, 0, none⟩) := hsu 12 (by decide)
      simp [Act.eval] at z12
      exact Mono.ok_val (.pointer (some ⟨w15.heap.size, 4, none⟩)) (by simp [execOp, z12, go_sem, k1, k2, k3, k4, hl0, htb, tbb]) rfl
    · intro a u hbu hsu hdu
      have hbw := HV.out.trans (hbu.mono HV.out.size); have k1 := (hbw.cell (p := ⟨w12.heap.size, 4, none⟩) HL.out.1).trans HK.out.1; have k2 := (hbw.cell (p := ⟨w15.heap.size, 4, none⟩) HL.out.2.1).trans HK.out.2.1; have k3 := (hbw.cell (p := ⟨gy, 0, none⟩) HL.out.2.2.1).trans HK.out.2.2.1; have k4 := (hbw.cell (p := ⟨bb, off, none⟩) HL.out.2.2.2).trans HK.out.2.2.2
      refine Mono.if_want (Mono.want_at (c := true) rfl rfl (Mono.dep_at hdu (i := 12) (d := 147) rfl rfl rfl) rfl) ?_
      have z148 : a.eval (.tmp 148) = .pointer (some ⟨w15.heap.size, 4, none⟩) := Mono.dep_at hdu (i := 13) (d := 148) rfl rfl rfl
      simp [Act.eval] at z148
      exact Mono.ok_val (.slice (some ⟨gy, 0, none⟩) l cy) (by simp [execOp, z148, go_sem, k1, k2, k3, k4, hl0, htb, tbb]) rfl
    · intro a u hbu hsu hdu
      have hbw := HV.out.trans (hbu.mono HV.out.size); have k1 := (hbw.cell (p := ⟨w12.heap.size, 4, none⟩) HL.out.1).trans HK.out.1; have k2 := (hbw.cell (p := ⟨w15.heap.size, 4, none⟩) HL.out.2.1).trans HK.out.2.1; have k3 := (hbw.cell (p := ⟨gy, 0, none⟩) HL.out.2.2.1).trans HK.out.2.2.1; have k4 := (hbw.cell (p := ⟨bb, off, none⟩) HL.out.2.2.2).trans HK.out.2.2.2
      refine Mono.if_want (Mono.want_at (c := true) rfl rfl (Mono.dep_at hdu (i := 12) (d := 147) rfl rfl rfl) rfl) ?_
      have z149 : a.eval (.tmp 149) = .slice (some ⟨gy, 0, none⟩) l cy := Mono.dep_at hdu (i := 14) (d := 149) rfl rfl rfl
      simp [Act.eval] at z149
      exact Mono.ok_val (.pointer (some ⟨gy, 0, none⟩)) (by simp [execOp, z149, go_sem, k1, k2, k3, k4, hl0, htb, tbb]) rfl
    · intro a u hbu hsu hdu
      have hbw := HV.out.trans (hbu.mono HV.out.size); have k1 := (hbw.cell (p := ⟨w12.heap.size, 4, none⟩) HL.out.1).trans HK.out.1; have k2 := (hbw.cell (p := ⟨w15.heap.size, 4, none⟩) HL.out.2.1).trans HK.out.2.1; have k3 := (hbw.cell (p := ⟨gy, 0, none⟩) HL.out.2.2.1).trans HK.out.2.2.1; have k4 := (hbw.cell (p := ⟨bb, off, none⟩) HL.out.2.2.2).trans HK.out.2.2.2
      refine Mono.if_want (Mono.want_at (c := true) rfl rfl (Mono.dep_at hdu (i := 12) (d := 147) rfl rfl rfl) rfl) ?_
      have z150 : a.eval (.tmp 150) = .pointer (some ⟨gy, 0, none⟩) := Mono.dep_at hdu (i := 15) (d := 150) rfl rfl rfl
      simp [Act.eval] at z150
      exact Mono.ok_val (.int .u8 (bits .xor .u8 x0 b)) (by simp [execOp, z150, go_sem, k1, k2, k3, k4, hl0, htb, tbb]) rfl
    · intro a u hbu hsu hdu
      have hbw := HV.out.trans (hbu.mono HV.out.size); have k1 := (hbw.cell (p := ⟨w12.heap.size, 4, none⟩) HL.out.1).trans HK.out.1; have k2 := (hbw.cell (p := ⟨w15.heap.size, 4, none⟩) HL.out.2.1).trans HK.out.2.1; have k3 := (hbw.cell (p := ⟨gy, 0, none⟩) HL.out.2.2.1).trans HK.out.2.2.1; have k4 := (hbw.cell (p := ⟨bb, off, none⟩) HL.out.2.2.2).trans HK.out.2.2.2
      refine Mono.if_want (Mono.want_at (c := true) rfl rfl (Mono.dep_at hdu (i := 12) (d := 147) rfl rfl rfl) rfl) ?_
      exact Mono.ok_move (.tmp 0) rfl (hsu 0 (by decide))
    · intro a u hbu hsu hdu
      have hbw := HV.out.trans (hbu.mono HV.out.size); have k1 := (hbw.cell (p := ⟨w12.heap.size, 4, none⟩) HL.out.1).trans HK.out.1; have k2 := (hbw.cell (p := ⟨w15.heap.size, 4, none⟩) HL.out.2.1).trans HK.out.2.1; have k3 := (hbw.cell (p := ⟨gy, 0, none⟩) HL.out.2.2.1).trans HK.out.2.2.1; have k4 := (hbw.cell (p := ⟨bb, off, none⟩) HL.out.2.2.2).trans HK.out.2.2.2
      refine Mono.if_want (Mono.want_at (c := true) rfl rfl (Mono.dep_at hdu (i := 12) (d := 147) rfl rfl rfl) rfl) ?_
      have z152 : a.eval (.tmp 152) = .slice (some ⟨bb, off, none⟩) l c := Mono.dep_at hdu (i := 17) (d := 152) rfl rfl rfl
      simp [Act.eval] at z152
      exact Mono.ok_val (.pointer (some ⟨bb, off, none⟩)) (by simp [execOp, z152, go_sem, k1, k2, k3, k4, hl0, htb, tbb]) rfl
    · intro a u hbu hsu hdu
      have hbw := HV.out.trans (hbu.mono HV.out.size); have k1 := (hbw.cell (p := ⟨w12.heap.size, 4, none⟩) HL.out.1).trans HK.out.1; have k2 := (hbw.cell (p := ⟨w15.heap.size, 4, none⟩) HL.out.2.1).trans HK.out.2.1; have k3 := (hbw.cell (p := ⟨gy, 0, none⟩) HL.out.2.2.1).trans HK.out.2.2.1; have k4 := (hbw.cell (p := ⟨bb, off, none⟩) HL.out.2.2.2).trans HK.out.2.2.2
      refine Mono.if_want (Mono.want_at (c := true) rfl rfl (Mono.dep_at hdu (i := 12) (d := 147) rfl rfl rfl) rfl) ?_
      have z153 : a.eval (.tmp 153) = .pointer (some ⟨bb, off, none⟩) := Mono.dep_at hdu (i := 18) (d := 153) rfl rfl rfl
      simp [Act.eval] at z153
      exact Mono.ok_val (.int .u8 x0) (by simp [execOp, z153, go_sem, k1, k2, k3, k4, hl0, htb, tbb]) rfl
    · intro a u hbu hsu hdu
      have hbw := HV.out.trans (hbu.mono HV.out.size); have k1 := (hbw.cell (p := ⟨w12.heap.size, 4, none⟩) HL.out.1).trans HK.out.1; have k2 := (hbw.cell (p := ⟨w15.heap.size, 4, none⟩) HL.out.2.1).trans HK.out.2.1; have k3 := (hbw.cell (p := ⟨gy, 0, none⟩) HL.out.2.2.1).trans HK.out.2.2.1; have k4 := (hbw.cell (p := ⟨bb, off, none⟩) HL.out.2.2.2).trans HK.out.2.2.2
      refine Mono.if_want (Mono.want_at (c := true) rfl rfl (Mono.dep_at hdu (i := 12) (d := 147) rfl rfl rfl) rfl) ?_
      exact Mono.ok_move (.tmp 1) rfl (hsu 1 (by decide))
    · intro a u hbu hsu hdu
      have hbw := HV.out.trans (hbu.mono HV.out.size); have k1 := (hbw.cell (p := ⟨w12.heap.size, 4, none⟩) HL.out.1).trans HK.out.1; have k2 := (hbw.cell (p := ⟨w15.heap.size, 4, none⟩) HL.out.2.1).trans HK.out.2.1; have k3 := (hbw.cell (p := ⟨gy, 0, none⟩) HL.out.2.2.1).trans HK.out.2.2.1; have k4 := (hbw.cell (p := ⟨bb, off, none⟩) HL.out.2.2.2).trans HK.out.2.2.2
      refine Mono.if_want (Mono.want_at (c := true) rfl rfl (Mono.dep_at hdu (i := 12) (d := 147) rfl rfl rfl) rfl) ?_
      have z154 : a.eval (.tmp 154) = .int .u8 x0 := Mono.dep_at hdu (i := 19) (d := 154) rfl rfl rfl
      simp [Act.eval] at z154
      have z155 : a.eval (.tmp 155) = .int .u8 b := Mono.dep_at hdu (i := 20) (d := 155) rfl rfl rfl
      simp [Act.eval] at z155
      exact Mono.ok_val (.int .u8 (bits .xor .u8 x0 b)) (by simp [execOp, z154, z155, go_sem, k1, k2, k3, k4, hl0, htb, tbb]) rfl
    · intro a u hbu hsu hdu
      have hbw := HV.out.trans (hbu.mono HV.out.size); have k1 := (hbw.cell (p := ⟨w12.heap.size, 4, none⟩) HL.out.1).trans HK.out.1; have k2 := (hbw.cell (p := ⟨w15.heap.size, 4, none⟩) HL.out.2.1).trans HK.out.2.1; have k3 := (hbw.cell (p := ⟨gy, 0, none⟩) HL.out.2.2.1).trans HK.out.2.2.1; have k4 := (hbw.cell (p := ⟨bb, off, none⟩) HL.out.2.2.2).trans HK.out.2.2.2
      refine Mono.if_want (Mono.want_at (c := true) rfl rfl (Mono.dep_at hdu (i := 12) (d := 147) rfl rfl rfl) rfl) ?_
      have z151 : a.eval (.tmp 151) = .int .u8 (bits .xor .u8 x0 b) := Mono.dep_at hdu (i := 16) (d := 151) rfl rfl rfl
      simp [Act.eval] at z151
      have z156 : a.eval (.tmp 156) = .int .u8 (bits .xor .u8 x0 b) := Mono.dep_at hdu (i := 21) (d := 156) rfl rfl rfl
      simp [Act.eval] at z156
      exact Mono.ok_val (.bool true) (by simp [execOp, z151, z156, go_sem, k1, k2, k3, k4, hl0, htb, tbb]) rfl
    · intro a u hbu hsu hdu
      have hbw := HV.out.trans (hbu.mono HV.out.size); have k1 := (hbw.cell (p := ⟨w12.heap.size, 4, none⟩) HL.out.1).trans HK.out.1; have k2 := (hbw.cell (p := ⟨w15.heap.size, 4, none⟩) HL.out.2.1).trans HK.out.2.1; have k3 := (hbw.cell (p := ⟨gy, 0, none⟩) HL.out.2.2.1).trans HK.out.2.2.1; have k4 := (hbw.cell (p := ⟨bb, off, none⟩) HL.out.2.2.2).trans HK.out.2.2.2
      refine Mono.if_want rfl ?_
      have z147 : a.eval (.tmp 147) = .bool true := Mono.dep_at hdu (i := 12) (d := 147) rfl rfl rfl
      simp [Act.eval] at z147
      have z157 : a.eval (.tmp 157) = .bool true := Mono.dep_at hdu (i := 22) (d := 157) rfl rfl rfl
      simp [Act.eval] at z157
      exact Mono.ok_val (.bool true) (by simp [execOp, z147, z157, go_sem, k1, k2, k3, k4, hl0, htb, tbb]) rfl
    · intro a u hbu hsu hdu
      have hbw := HV.out.trans (hbu.mono HV.out.size); have k1 := (hbw.cell (p := ⟨w12.heap.size, 4, none⟩) HL.out.1).trans HK.out.1; have k2 := (hbw.cell (p := ⟨w15.heap.size, 4, none⟩) HL.out.2.1).trans HK.out.2.1; have k3 := (hbw.cell (p := ⟨gy, 0, none⟩) HL.out.2.2.1).trans HK.out.2.2.1; have k4 := (hbw.cell (p := ⟨bb, off, none⟩) HL.out.2.2.2).trans HK.out.2.2.2
      refine Mono.if_want rfl ?_
      exact Mono.ok_move (.tmp 158) rfl (Mono.dep_at hdu (i := 23) (d := 158) rfl rfl rfl)
    · intro a u hbu hsu hdu
      have hbw := HV.out.trans (hbu.mono HV.out.size); have k1 := (hbw.cell (p := ⟨w12.heap.size, 4, none⟩) HL.out.1).trans HK.out.1; have k2 := (hbw.cell (p := ⟨w15.heap.size, 4, none⟩) HL.out.2.1).trans HK.out.2.1; have k3 := (hbw.cell (p := ⟨gy, 0, none⟩) HL.out.2.2.1).trans HK.out.2.2.1; have k4 := (hbw.cell (p := ⟨bb, off, none⟩) HL.out.2.2.2).trans HK.out.2.2.2
      refine Mono.if_want (Mono.want_at (c := true) rfl rfl (Mono.dep_at hdu (i := 24) (d := 159) rfl rfl rfl) rfl) ?_
      exact Mono.ok_move (.tmp 18) rfl (hsu 18 (by decide))
    · intro a u hbu hsu hdu
      have hbw := HV.out.trans (hbu.mono HV.out.size); have k1 := (hbw.cell (p := ⟨w12.heap.size, 4, none⟩) HL.out.1).trans HK.out.1; have k2 := (hbw.cell (p := ⟨w15.heap.size, 4, none⟩) HL.out.2.1).trans HK.out.2.1; have k3 := (hbw.cell (p := ⟨gy, 0, none⟩) HL.out.2.2.1).trans HK.out.2.2.1; have k4 := (hbw.cell (p := ⟨bb, off, none⟩) HL.out.2.2.2).trans HK.out.2.2.2
      refine Mono.if_want rfl ?_
      have z159 : a.eval (.tmp 159) = .bool true := Mono.dep_at hdu (i := 24) (d := 159) rfl rfl rfl
      simp [Act.eval] at z159
      have z160 : a.eval (.tmp 160) = .bool true := Mono.dep_at hdu (i := 25) (d := 160) rfl rfl rfl
      simp [Act.eval] at z160
      exact Mono.ok_val (.bool true) (by simp [execOp, z159, z160, go_sem, k1, k2, k3, k4, hl0, htb, tbb]) rfl
    · intro a u hbu hsu hdu
      have hbw := HV.out.trans (hbu.mono HV.out.size); have k1 := (hbw.cell (p := ⟨w12.heap.size, 4, none⟩) HL.out.1).trans HK.out.1; have k2 := (hbw.cell (p := ⟨w15.heap.size, 4, none⟩) HL.out.2.1).trans HK.out.2.1; have k3 := (hbw.cell (p := ⟨gy, 0, none⟩) HL.out.2.2.1).trans HK.out.2.2.1; have k4 := (hbw.cell (p := ⟨bb, off, none⟩) HL.out.2.2.2).trans HK.out.2.2.2
      refine Mono.if_want rfl ?_
      exact Mono.ok_assign (.tmp 161) rfl (Mono.dep_at hdu (i := 26) (d := 161) rfl rfl rfl)
  intro u hu
  simp only [Mono.Fin]
  rintro _ rfl _ rfl _ rfl _ rfl _ rfl _ rfl _ rfl _ rfl _ rfl _ rfl _ rfl _ rfl _ rfl _ rfl _ rfl _ rfl _ rfl _ rfl _ rfl _ rfl _ rfl _ rfl _ rfl _ rfl _ rfl _ rfl _ rfl _ rfl
  simp [Act.put]
  go_wp2_with fail
  go_ret
  exact ⟨rfl, HU17.out.trans ((HV.out.trans (hu.mono HV.out.size)).mono HU17.out.size)⟩
end Go.Proofs.Ytmdhpjbahenbhaa.Net
