/-
  Contract: Turn.
-/
import Derived.Test.YtmdhpjbahenbhaaNet5
import Derived.Test.YtmdhpjbahenbhaaTake
import Derived.Laws.BitsAllLaws
namespace Go.Proofs.Ytmdhpjbahenbhaa.Net
open Go.RowKit Mem Cells Ops Go.Maps
set_option linter.unusedVariables false
set_option linter.unusedSimpArgs false

section
variable {P : Program} {w : World} {ops : Array Oper} {rest : List Oper} {o : Oper} {a : Act} {Q : Exit → Act → World → Prop}
/-- A store into a row of the call's own. -/
theorem wpl_storeO (hgd : o.guard = none) (ty : TypeId) (x y : Operand) (ho : o.op = .store ty x y) (hd : o.dst = none) (B e k g n c j : Nat) (xs : List Value) (v : Value)
    (hx : a.eval x = .pointer (some ⟨g, j, none⟩)) (hy : a.eval y = v) (hrow : w.ownsRow B e k (.slice (some ⟨g, 0, none⟩) n c) n xs) (hj : j < n * k) (hi : (P.info? ty).map (·.size) = some 1) (h1 : v.oneCell' = true)
    (h : ∀ w', w'.ownsRow B e k (.slice (some ⟨g, 0, none⟩) n c) n (xs.set j v) → w.grownBy w' (some g) → wpList P ops Q rest a w') : wpList P ops Q (o :: rest) a w := by
  refine wpList_plain hgd fun K hK => ?_
  have hc := hrow.cellAt j hj
  have hl : xs.length = n * k := hrow.1
  rw [List.getElem?_eq_getElem (by omega)] at hc
  obtain ⟨cur, hat⟩ := own_at hrow (g := g) rfl
  have hf := hat.free j
  have hrun : (storeVar ty ⟨g, j, none⟩ v).run P w = .ok () (w.setCell ⟨g, j, none⟩ v) := by
    cases hq : P.info? ty with
    | none => simp [hq] at hi
    | some i =>
      have hs : i.size = 1 := by simpa [hq] using hi
      have ha : (⟨g, j, none⟩ : Addr).add 0 = ⟨g, j, none⟩ := by unfold Addr.add; split <;> simp_all
      simp [storeVar, sizeOf, typeInfo, hq, cells_one h1, hs, storeCells, ha, run_store P w _ v _ h1, hc, hf]
  unfold Oper.wp execOp
  simp only [ho, hx, hy, Instr.storeAt, Instr.sureAddr, Sem.run_bind, Sem.run_pure, Result.andThen_ok, hrun]
  refine hK _ _ ?_
  rw [hd]
  exact h _ (hrow.stored j v).1 (hrow.stored j v).2
end
theorem flatF_same {zs : List (F × Value)} {k : Nat} {f f' : F} {d : Value} (h : zs[k]? = some (f, d)) (e : rowF f' d = rowF f d) : flatF (zs.set k (f', d)) = flatF zs := by
  induction zs generalizing k with
  | nil => rfl
  | cons y zs ih =>
    cases k with
    | zero => simp at h; subst h; simp [flatF_cons, e]
    | succ k => rw [List.set_cons_succ, flatF_cons, flatF_cons, ih (by simpa using h)]
theorem flatF_set {zs : List (F × Value)} {k j : Nat} {f f' : F} {d v : Value} (h : zs[k]? = some (f, d)) (hj : j < 6) (e : rowF f' d = (rowF f d).set j v) : flatF (zs.set k (f', d)) = (flatF zs).set (k * 6 + j) v := by
  induction zs generalizing k with
  | nil => simp at h
  | cons y zs ih =>
    have hl : (rowF y.1 y.2).length = 6 := rfl
    cases k with
    | zero =>
      simp at h; subst h
      rw [List.set_cons_zero, flatF_cons, flatF_cons, List.set_append_left _ _ (by rw [rowF_length]; omega), show 0 * 6 + j = j from by omega]
      rw [← e]
    | succ k =>
      rw [List.set_cons_succ, flatF_cons, flatF_cons, ih (by simpa using h), List.set_append_right _ _ (by rw [hl]; omega), hl, show (k + 1) * 6 + j - 6 = k * 6 + j from by omega]
section
variable {X Y : Nat → Prop} {w w' : World} {v : Value} {zs : List (F × Value)}
theorem OwnF.away (h : OwnF X w v zs) (i j : Nat) (y z : F × Value) (hi : zs[i]? = some y) (hj : zs[j]? = some z) (hne : i ≠ j) : Apart y.2 z.2 := by
  obtain ⟨li, ei⟩ := List.getElem?_eq_some_iff.1 hi
  obtain ⟨lj, ej⟩ := List.getElem?_eq_some_iff.1 hj
  have hp := List.pairwise_iff_getElem.1 h.apart
  rcases Nat.lt_or_gt_of_ne hne with hlt | hlt
  · have := hp i j li lj hlt; rwa [ei, ej] at this
  · have := hp j i lj li hlt; rw [ei, ej] at this; exact this.symm
theorem pair_set {k : Nat} {f f' : F} {d : Value} (h : zs.Pairwise fun a b => Apart a.2 b.2) (hz : zs[k]? = some (f, d)) : (zs.set k (f', d)).Pairwise fun a b => Apart a.2 b.2 := by
  have e : (zs.set k (f', d)).map Prod.snd = zs.map Prod.snd := by
    rw [List.map_set]
    refine List.ext_getElem? fun i => ?_
    rw [List.getElem?_set]
    split
    · next hki =>
      subst hki
      rw [List.getElem?_map, hz, if_pos (by rw [List.length_map]; exact (List.getElem?_eq_some_iff.1 hz).1)]
      rfl
    · rfl
  have h1 : (zs.map Prod.snd).Pairwise Apart := List.pairwise_map.2 h
  rw [← e] at h1
  exact List.pairwise_map.1 h1
/-- A byte of a frame is written. -/
theorem OwnF.byte (h : OwnF X w v zs) (k : Nat) (f : F) (d : Value) (hz : zs[k]? = some (f, d)) (f' : F) (hf : rowF f' d = rowF f d) (hg : w.grownBy w' d.ownBlock) (hr : Row .u8 5 0 w' d f'.bytes) : OwnF X w' v (zs.set k (f', d)) := by
  have h8 := h.bytes _ (List.mem_of_getElem? hz)
  refine ⟨?_, h.mine, fun z hzm => ?_, pair_set h.apart hz⟩
  · rw [List.length_set, flatF_same hz hf]
    exact h.row.kept hg (own_ne2 h.row h8.1 (by decide))
  · obtain ⟨i, hi, ei⟩ := List.mem_iff_getElem.1 hzm
    rw [List.getElem_set] at ei
    split at ei
    · subst ei; exact ⟨hr, h8.2⟩
    · next hne =>
      rw [List.length_set] at hi
      have hi2 : zs[i]? = some z := by rw [← ei]; simp
      have hap := h.away i k _ _ hi2 hz (Ne.symm hne)
      refine (h.bytes z (List.mem_of_getElem? hi2)).kept hg ?_
      cases hb : z.2.ownBlock with
      | none => exact .inl rfl
      | some q => exact .inr (fun e => hap q hb e.symm)
/-- A frame is marked. -/
theorem OwnF.mark {g c m : Nat} (h : OwnF X w (.slice (some ⟨g, 0, none⟩) m c) zs) (k j : Nat) (f : F) (d u : Value) (hz : zs[k]? = some (f, d)) (f' : F) (hj : j < 6) (hf : rowF f' d = (rowF f d).set j u) (hby : f'.bytes = f.bytes) (hg : w.grownBy w' (some g)) (hr : w'.ownsRow 0 35 6 (.slice (some ⟨g, 0, none⟩) m c) zs.length ((flatF zs).set (k * 6 + j) u)) : OwnF X w' (.slice (some ⟨g, 0, none⟩) m c) (zs.set k (f', d)) := by
  refine ⟨?_, h.mine, fun z hzm => ?_, pair_set h.apart hz⟩
  · rw [List.length_set, flatF_set hz hj hf]
    exact hr
  · have key : ∀ y ∈ zs, Own8 X w' y.2 y.1.bytes := fun y hy => (h.bytes y hy).kept hg (own_ne2 (v' := .slice (some ⟨g, 0, none⟩) m c) (h.bytes y hy).1 h.row (by decide))
    rcases List.mem_or_eq_of_mem_set hzm with hm | rfl
    · exact key z hm
    · have := key _ (List.mem_of_getElem? hz)
      rw [show (f', d).1.bytes = f.bytes from hby]
      exact this
end
theorem xor8_range (x y : Int) (hx : 0 ≤ x ∧ x ≤ 255) (hy : 0 ≤ y ∧ y ≤ 255) : 0 ≤ xor8 x y ∧ xor8 x y ≤ 255 := by
  unfold xor8
  rw [u8_xor x y hx.1 (by omega) hy.1 (by omega)]
  have := Nat.xor_lt_two_pow (n := 8) (show x.toNat < 2 ^ 8 by omega) (show y.toNat < 2 ^ 8 by omega)
  omega
theorem turnF_ok {f : F} (h : f.ok) (at_ : Nat) (ha : at_ < f.bytes.length) (b : Int) (hb : 0 ≤ b ∧ b ≤ 255) : (turnF f at_ b).ok := by
  refine ⟨by simpa [turnF] using h.1, fun x hx => ?_⟩
  rcases List.mem_or_eq_of_mem_set hx with hx | rfl
  · exact h.2 x hx
  · refine xor8_range _ _ (h.2 _ ?_) hb
    simp [ha]
set_option maxRecDepth 100000 in
theorem TurnNil (k at_ b : Int) (w : World) : Calls Try.prog 19 #[.pointer none, .int .i64 k, .int .i64 at_, .int .u8 b] w fun e w' => e = .returned (.int .i64 1) ∧ w' = w := by
  go_enter Try.func19, Try.ntmps19
  go_wp2_with (go_at_call 24; go_must (refine (faultNil _ _).mono ?_; rintro e w2 ⟨rfl, rfl⟩))
  go_ret
  exact ⟨rfl, rfl⟩
set_option maxRecDepth 100000 in
set_option maxHeartbeats 800000 in
theorem TurnNone {X : Nat → Prop} {w : World} {S : Nat} {hosts : Int} {fs : List F} {cut : Int → Int → Int → Bool} {n : Nat} (h : Net X w S hosts fs cut n) (k at_ b : Int) (hk : inB fs.length k = false) :
    Calls Try.prog 19 #[.pointer (some ⟨S, 0, none⟩), .int .i64 k, .int .i64 at_, .int .u8 b] w fun e w' => e = .returned (.int .i64 8) ∧ w' = w := by
  obtain ⟨zs, p, m, c, b', D, h⟩ := h
  have hm1 := h.ok.1
  rw [h.flen] at hk hm1
  have PF := Lib.hid (by have := fault S m c p _ _ k w h.row hm1; rw [show faultE m k = 8 from by unfold faultE; rw [hk]; rfl] at this; exact this)
  clear h hm1 hk
  go_enter Try.func19, Try.ntmps19
  go_wp2_with (go_at_call 24; go_must (refine PF.out.mono ?_; rintro e w2 ⟨rfl, rfl⟩))
  go_ret
  exact ⟨rfl, rfl⟩
set_option maxRecDepth 100000 in
set_option maxHeartbeats 1600000 in
/-- What is refused: a frame that is there. -/
theorem TurnNot {X : Nat → Prop} {w : World} {S : Nat} {hosts : Int} {fs : List F} {cut : Int → Int → Int → Bool} {n : Nat} (h : Net X w S hosts fs cut n) (k : Nat) (hk : k < fs.length) (f : F) (hf : fs[k]? = some f) (at_ b r : Int) (hb : 0 ≤ b ∧ b ≤ 255) (hat : -9223372036854775808 ≤ at_ ∧ at_ ≤ 9223372036854775807)
    (hr : (r = 1 ∧ (b = 0 ∨ at_ < 0 ∨ f.bytes.length ≤ at_)) ∨ (r = 7 ∧ 1 ≤ b ∧ 0 ≤ at_ ∧ at_ < f.bytes.length ∧ f.turned = true)) :
    Calls Try.prog 19 #[.pointer (some ⟨S, 0, none⟩), .int .i64 k, .int .i64 at_, .int .u8 b] w fun e w' => e = .returned (.int .i64 r) ∧ w' = w := by
  obtain ⟨zs, p, m, c, b', D, h⟩ := h
  have hm1 := h.ok.1
  rw [h.flen] at hk hm1
  have PF := Lib.hid (by have := fault S m c p _ _ k w h.row hm1; rw [show faultE m k = 0 from by unfold faultE inB; rw [decide_eq_true (by omega)]; rfl] at this; exact this)
  obtain ⟨⟨f', d⟩, hz1, hz2⟩ := h.get k hk
  obtain rfl : f' = f := by rw [hz2] at hf; exact Option.some.inj hf
  have hfl : f'.bytes.length ≤ 4096 := (h.ok.2 f' (List.mem_of_getElem? hz2)).1
  obtain ⟨g, c', ec, hgl, hXg, _, hra, h8⟩ := h.list.elem k _ hz1
  rw [h.len] at ec
  cases ec
  obtain ⟨pd, cd, rfl, _⟩ : ∃ pd cd, d = .slice pd f'.bytes.length cd ∧ True := by obtain ⟨pd, cd, e, _⟩ := h8.1.reads; exact ⟨pd, cd, e, trivial⟩
  have c1 := h.row.cell 1
  simp at c1
  have c4 := hra 4 _ rfl
  have c5 := hra 5 _ rfl
  have hkm : (k : Int) < m := by omega
  have hm63 : m ≤ 9223372036854775807 := by omega
  obtain ⟨q, hq⟩ : ∃ q, f'.bytes.length = q := ⟨_, rfl⟩
  obtain ⟨tu, htu⟩ : ∃ tu, f'.turned = tu := ⟨_, rfl⟩
  simp [rowF] at c4 c5
  rw [hq] at c4 hr hfl
  rw [htu] at c5 hr
  clear h hra h8 hz1 hz2 hgl hq hf hk hm1 htu
  rcases hr with ⟨rfl, h0⟩ | ⟨rfl, h1, h2, h3, rfl⟩
  · by_cases hb0 : b = 0
    · subst hb0
      clear h0
      go_enter Try.func19, Try.ntmps19
      go_wp2_with (go_at_call 24; go_must (refine PF.out.mono ?_; rintro e w2 ⟨rfl, rfl⟩))
      go_ret
      exact ⟨rfl, rfl⟩
    · have t0 : (b == 0) = false := by simpa using hb0
      by_cases ha0 : at_ < 0
      · clear h0 hb0
        go_enter Try.func19, Try.ntmps19
        go_wp2_with (go_at_call 24; go_must (refine PF.out.mono ?_; rintro e w2 ⟨rfl, rfl⟩))
        go_ret
        exact ⟨rfl, rfl⟩
      · have ha1 : (q : Int) ≤ at_ := by omega
        clear h0 hb0
        go_enter Try.func19, Try.ntmps19
        go_wp2_with (go_at_call 24; go_must (refine PF.out.mono ?_; rintro e w2 ⟨rfl, rfl⟩))
        go_ret
        exact ⟨rfl, rfl⟩
  · have t0 : (b == 0) = false := by simp; omega
    go_enter Try.func19, Try.ntmps19
    go_wp2_with (go_at_call 24; go_must (refine PF.out.mono ?_; rintro e w2 ⟨rfl, rfl⟩))
    go_ret
    exact ⟨rfl, rfl⟩
set_option maxRecDepth 100000 in
set_option maxHeartbeats 1600000 in
theorem TurnOk {X : Nat → Prop} {w : World} {S : Nat} {hosts : Int} {fs : List F} {cut : Int → Int → Int → Bool} {n : Nat} (h : Net X w S hosts fs cut n) (k : Nat) (f : F) (hf : fs[k]? = some f) (at_ : Nat) (b : Int) (hb : 1 ≤ b ∧ b ≤ 255) (hat : at_ < f.bytes.length) (ht : f.turned = false) :
    Calls Try.prog 19 #[.pointer (some ⟨S, 0, none⟩), .int .i64 k, .int .i64 at_, .int .u8 b] w fun e w' => e = .returned (.int .i64 0) ∧ Net X w' S hosts (fs.set k (turnF f at_ b)) cut n ∧ ButX X w w' := by
  obtain ⟨zs, p, m, c, b', D, h⟩ := h
  have hk : k < fs.length := (List.getElem?_eq_some_iff.1 hf).1
  have hm1 := h.ok.1
  rw [h.flen] at hk hm1
  have PF := Lib.hid (by have := fault S m c p _ _ k w h.row hm1; rw [show faultE m k = 0 from by unfold faultE inB; rw [decide_eq_true (by omega)]; rfl] at this; exact this)
  obtain ⟨⟨f', d⟩, hz1, hz2⟩ := h.get k hk
  obtain rfl : f' = f := by rw [hz2] at hf; exact Option.some.inj hf
  have hfo := h.ok.2 f' (List.mem_of_getElem? hz2)
  have hfl : f'.bytes.length ≤ 4096 := hfo.1
  obtain ⟨g, c', ec, hgl, hXg, _, hra, h8⟩ := h.list.elem k _ hz1
  rw [h.len] at ec
  cases ec
  obtain ⟨pd, cd, rfl, _⟩ : ∃ pd cd, d = .slice pd f'.bytes.length cd ∧ True := by obtain ⟨pd, cd, e, _⟩ := h8.1.reads; exact ⟨pd, cd, e, trivial⟩
  obtain ⟨gd, rfl, _, _, hgd⟩ := h8.1.form (by show 0 < f'.bytes.length; omega)
  have c1 := h.row.cell 1
  simp at c1
  have c4 := hra 4 _ rfl
  have c5 := hra 5 _ rfl
  have cb := (h8.1.cell at_ hat).1
  have hkm : (k : Int) < m := by omega
  have hm63 : m ≤ 9223372036854775807 := by omega
  simp [rowF] at c4 c5
  have H := Lib.hid h
  have HX := Lib.hid hXg
  have HF := Lib.hid (And.intro hf (And.intro hfo (And.intro hk hat)))
  have HB := Lib.hid hb
  have hrB := Lib.hid (show Row .u8 5 0 w (.slice (some ⟨gd, 0, none⟩) f'.bytes.length cd) f'.bytes from h8.1)
  have E1 := Lib.hid (show bits .xor .u8 (f'.bytes.getD at_ 0) b = xor8 (f'.bytes.getD at_ 0) b from rfl)
  obtain ⟨x, hx⟩ : ∃ x, f'.bytes.getD at_ 0 = x := ⟨_, rfl⟩
  obtain ⟨q, hq⟩ : ∃ q, f'.bytes.length = q := ⟨_, rfl⟩
  rw [hx] at cb
  rw [hq] at c4 hrB hfl hat
  rw [ht] at c5
  have HQ := Lib.hid (And.intro hx (And.intro hq ht))
  simp only [hq] at h8
  rw [hq] at hz1
  have H8 := Lib.hid h8
  have HZ := Lib.hid hz1
  have t0 : (b == 0) = false := by simp; omega
  have hat' : (at_ : Int) < q := by omega
  clear h hra h8 hz1 hz2 hgl hq hf hk hm1 ht hx hfo hXg
  go_enter Try.func19, Try.ntmps19
  go_wp2_with (first
    | (go_at_call 24; go_must (refine PF.out.mono ?_; rintro e w2 ⟨rfl, rfl⟩))
    | ((with_reducible refine wpl_storeB rfl 5 (.tmp 53) (.tmp 52) rfl rfl .u8 0 5 gd q cd at_ f'.bytes (xor8 x b) ?_ ?_ hrB.out HQ.out.2.1.symm ?_ (by kernel_rfl) ?_); rfl; rfl; (exact HF.out.2.2.2); go_must (intro w3 hr3 hg3; have HR3 := Lib.hid hr3; have HG3 := Lib.hid hg3; have hne := own_ne (H8.out).1 H.out.row (by decide); have hrow3 := H.out.row.grown hg3 (fun e => hne (by rw [e]; rfl)); have hl3 := Lib.hid (H.out.list.byte k f' _ HZ.out { f' with bytes := f'.bytes.set at_ (xor8 x b) } rfl hg3 (by simpa [HQ.out.2.1] using hr3)); clear c1 c4 c5 cb hne hr3 hg3; have c1 := hrow3.cell 1; simp at c1; have HROW3 := Lib.hid hrow3; clear hrow3))
    | ((with_reducible refine wpl_storeO rfl 4 (.tmp 56) (.const (.bool true)) rfl rfl 0 35 6 g m c (k * 6 + 5) (flatF (zs.set k ({ f' with bytes := f'.bytes.set at_ (xor8 x b) }, .slice (some ⟨gd, 0, none⟩) q cd))) (.bool true) ?_ ?_ ?_ ?_ (by kernel_rfl) rfl ?_); rfl; rfl; (have hh := hl3.out.row; rw [List.length_set, H.out.len] at hh; exact hh); (have := HF.out.2.2.1; omega); go_must (intro w4 ho4 hg4)))
  go_ret
  have hh := H.out
  have hl := hh.len
  have hF := HF.out
  have hl3' := hl3.out
  have hz3 : (zs.set k (({ f' with bytes := f'.bytes.set at_ (xor8 x b) } : F), Value.slice (some ⟨gd, 0, none⟩) q cd))[k]? = some (({ f' with bytes := f'.bytes.set at_ (xor8 x b) } : F), Value.slice (some ⟨gd, 0, none⟩) q cd) := by
    rw [List.getElem?_set_self (by omega)]
  have et : turnF f' at_ b = { f' with bytes := f'.bytes.set at_ (xor8 x b), turned := true } := by
    unfold turnF
    rw [show ((at_ : Nat) : Int).toNat = at_ from by omega, HQ.out.1]
  have hl4 := hl3'.mark k 5 _ _ (.bool true) hz3 (turnF f' at_ b) (by decide) (by rw [et]; rfl) (by rw [et]) hg4 (by rw [List.length_set, hl]; exact ho4)
  rw [List.set_set] at hl4
  have hne := own_ne hh.list.row hh.row (by decide)
  have hrow4 := HROW3.out.grown hg4 (fun e => hne (by rw [e]; rfl))
  have h8 := H8.out
  have key : ∀ {v : Value} {B e k n : Nat} {xs : List Value}, w2.ownsRow B e k v n xs → some b' ≠ v.ownBlock := by
    intro v B e k n xs ho he
    obtain ⟨cur, hc⟩ := own_at ho he.symm
    obtain ⟨es, clock, h5, _⟩ := hh.map
    rw [show w2.heap[b']? = _ from hc] at h5
    cases h5
  have hX : ButX X w2 w4 := (ButX.ofGrown HG3.out (fun q e => by cases e; exact h8.2 _ rfl)).trans ((ButX.ofGrown hg4 (fun q e => by cases e; exact HX.out)).mono more_self)
  refine ⟨rfl, ⟨_, _, m, c, b', D, hrow4, hh.xS, hh.xb, ?_, by rw [List.length_set, hl], hl4, (hh.map.kept HG3.out (key h8.1)).kept hg4 (key hh.list.row), hh.says, ⟨by rw [List.length_set]; exact hh.ok.1, fun y hy => ?_⟩, hh.few, hh.hosts⟩, hX⟩
  · rw [List.map_set, hh.fst]
  · rcases List.mem_or_eq_of_mem_set hy with hy | rfl
    · exact hh.ok.2 y hy
    · exact turnF_ok hF.2.1 at_ hF.2.2.2 b (by have := HB.out; omega)
/-- Turn, in all cases. -/
theorem TurnX {X : Nat → Prop} {w : World} {S : Nat} {hosts : Int} {fs : List F} {cut : Int → Int → Int → Bool} {n : Nat} (h : Net X w S hosts fs cut n) (k at_ b : Int) (hb : 0 ≤ b ∧ b ≤ 255) (hat : -9223372036854775808 ≤ at_ ∧ at_ ≤ 9223372036854775807) :
    Calls Try.prog 19 #[.pointer (some ⟨S, 0, none⟩), .int .i64 k, .int .i64 at_, .int .u8 b] w fun e w' => e = .returned (.int .i64 (turnE fs k at_ b)) ∧ Net X w' S hosts (turnL fs k at_ b) cut n ∧ ButX X w w' := by
  cases hk : inB fs.length k with
  | false =>
    have e1 : turnE fs k at_ b = 8 := by unfold turnE; rw [hk]; rfl
    have e2 : turnL fs k at_ b = fs := by unfold turnL; rw [e1]; rfl
    rw [e1, e2]
    exact (TurnNone h k at_ b hk).mono fun e w' ⟨e1, e2⟩ => by subst e2; exact ⟨e1, h, ButX.refl _ _⟩
  | true =>
    have hk' : 0 ≤ k ∧ k < fs.length := by simpa [inB] using hk
    obtain ⟨j, rfl⟩ : ∃ j : Nat, k = j := ⟨k.toNat, by omega⟩
    have hj : j < fs.length := by omega
    obtain ⟨f, hf⟩ : ∃ f, fs[j]? = some f := ⟨_, List.getElem?_eq_getElem hj⟩
    have ef : takeF fs j = f := by
      unfold takeF
      rw [hk, if_pos rfl, show ((j : Nat) : Int).toNat = j from by omega, List.getD_eq_getElem?_getD, hf]
      rfl
    by_cases h1 : b = 0 ∨ inB f.bytes.length at_ = false
    · have e1 : turnE fs j at_ b = 1 := by unfold turnE; rw [hk, if_pos rfl, ef, if_pos h1]
      have e2 : turnL fs j at_ b = fs := by unfold turnL; rw [e1]; rfl
      rw [e1, e2]
      exact (TurnNot h j hj f hf at_ b 1 hb hat (.inl ⟨rfl, by
        rcases h1 with h1 | h1
        · exact .inl h1
        · right; simp [inB] at h1; omega⟩)).mono fun e w' ⟨e1, e2⟩ => by subst e2; exact ⟨e1, h, ButX.refl _ _⟩
    · have hb1 : b ≠ 0 := fun e => h1 (.inl e)
      have hb2 : 0 ≤ at_ ∧ at_ < f.bytes.length := by
        cases hi : inB f.bytes.length at_ with
        | false => exact absurd (.inr hi) h1
        | true => simpa [inB] using hi
      cases ht : f.turned with
      | true =>
        have e1 : turnE fs j at_ b = 7 := by unfold turnE; rw [hk, if_pos rfl, ef, if_neg h1, ht]; rfl
        have e2 : turnL fs j at_ b = fs := by unfold turnL; rw [e1]; rfl
        rw [e1, e2]
        exact (TurnNot h j hj f hf at_ b 7 hb hat (.inr ⟨rfl, by omega, hb2.1, hb2.2, ht⟩)).mono fun e w' ⟨e1, e2⟩ => by subst e2; exact ⟨e1, h, ButX.refl _ _⟩
      | false =>
        obtain ⟨i, rfl⟩ : ∃ i : Nat, at_ = i := ⟨at_.toNat, by omega⟩
        have e1 : turnE fs j i b = 0 := by unfold turnE; rw [hk, if_pos rfl, ef, if_neg h1, ht]; rfl
        have e2 : turnL fs j i b = fs.set j (turnF f i b) := by unfold turnL; rw [e1, if_pos rfl, ef]; rfl
        rw [e1, e2]
        exact TurnOk h j f hf i b (by omega) (by omega) ht
end Go.Proofs.Ytmdhpjbahenbhaa.Net
