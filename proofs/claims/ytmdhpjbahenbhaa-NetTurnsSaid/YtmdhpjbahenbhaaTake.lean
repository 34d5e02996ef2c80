/-
  Contracts: slices.Delete of one frame; Take.
-/
import Derived.Test.YtmdhpjbahenbhaaNet4
import Derived.Deep.Cut
import Derived.Test.YtmdhpjbahenbhaaMonoT
namespace Go.Proofs.Ytmdhpjbahenbhaa.Net
open Go.RowKit Mem Cells Ops Go.Maps
set_option linter.unusedVariables false
set_option linter.unusedSimpArgs false

section
variable {P : Program} {w : World} {ops : Array Oper} {rest : List Oper} {o : Oper} {a : Act} {R : Mono.Prp} {Q : Exit → Act → World → Prop}
/-- A slice whose run is known. -/
theorem wpl_sliceR (hgd : o.guard = none) (t : TypeId) (x : Operand) (lo hi mx : Option Operand) (ho : o.op = .slice t x lo hi mx) (v r : Value) (vl vh vm : Option Value) (hx : a.eval x = v) (hl : lo.map a.eval = vl) (hh : hi.map a.eval = vh) (hm : mx.map a.eval = vm)
    (hrun : (Instr.sliceAt t v vl vh vm).run P w = .ok r w) (K : wpList P ops Q rest (a.put o.dst r) w) : wpList P ops Q (o :: rest) a w := by
  refine wpList_plain hgd fun K' hK => ?_
  unfold Oper.wp execOp
  simp only [ho, hx, hl, hh, hm, hrun, Sem.run_bind, Sem.run_pure, Result.andThen_ok]
  exact hK _ _ K
theorem ok_sliceR (t : TypeId) (x : Operand) (lo hi mx : Option Operand) (ho : o.op = .slice t x lo hi mx) (v r : Value) (vl vh vm : Option Value) (hx : a.eval x = v) (hl : lo.map a.eval = vl) (hh : hi.map a.eval = vh) (hm : mx.map a.eval = vm)
    (hrun : (Instr.sliceAt t v vl vh vm).run P w = .ok r w) (h : R.R r w) : o.wp P a w (Mono.Post o a w R) Q := by
  unfold Oper.wp execOp
  simp only [ho, hx, hl, hh, hm, hrun, Sem.run_bind, Sem.run_pure, Result.andThen_ok]
  exact ⟨_, rfl, Below.refl _ _, h⟩
/-- An append whose run is known. -/
theorem wpl_appendV (hgd : o.guard = none) (t : TypeId) (s x : Operand) (ho : o.op = .call { callee := .builtin .append, args := #[s, x], argTypes := #[t, t] }) (vs vx r : Value) (w' : World) (hs : a.eval s = vs) (hx : a.eval x = vx)
    (hrun : (Builtin.append_ #[t, t] o.type #[vs, vx]).run P w = .ok r w') (K : wpList P ops Q rest (a.put o.dst r) w') : wpList P ops Q (o :: rest) a w :=
  wpList_plain hgd fun K' hK => wp_appendV t s x ho vs vx r w' hs hx hrun (hK _ _ K)
end
theorem size44 (u : World) : (sizeOf (Try.prog.elem 44)).run Try.prog u = .ok 6 u := by
  obtain ⟨i, i1, i2, i3, i4⟩ := info_parts info35
  rw [show Try.prog.elem 44 = 35 from by kernel_rfl]
  simp [sizeOf, typeInfo, i1, i3]
theorem run_lhm (p : Option Addr) (n cap : Nat) (l h m : Int) (u : World) (h0 : 0 ≤ l) (h1 : l ≤ h) (h2 : h ≤ m) (h3 : m ≤ cap) : (Instr.sliceAt 44 (.slice p n cap) (some (.int .i64 l)) (some (.int .i64 h)) (some (.int .i64 m))).run Try.prog u = .ok (sliced p l.toNat h.toNat m.toNat 6) u := by
  rw [run_sliceAt_slice u 44 _ _ _ _ Try.underlying44, run_slice_lhm u 44 p n cap Try.underlying44 .i64 .i64 .i64 l h m h0 h1 h2 h3, size44]
  rfl
theorem run_h (p : Option Addr) (n cap : Nat) (h : Int) (u : World) (h0 : 0 ≤ h) (h2 : h ≤ cap) : (Instr.sliceAt 44 (.slice p n cap) none (some (.int .i64 h)) none).run Try.prog u = .ok (sliced p 0 h.toNat cap 6) u := by
  rw [run_sliceAt_slice u 44 _ _ _ _ Try.underlying44, run_slice_h u 44 p n cap Try.underlying44 .i64 h h0 h2, size44]
  rfl
theorem run_l (p : Option Addr) (n cap : Nat) (l : Int) (u : World) (h0 : 0 ≤ l) (h1 : l ≤ n) : (Instr.sliceAt 44 (.slice p n cap) (some (.int .i64 l)) none none).run Try.prog u = .ok (sliced p l.toNat n cap 6) u := by
  rw [run_sliceAt_slice u 44 _ _ _ _ Try.underlying44, run_slice_l u 44 p n cap Try.underlying44 .i64 l h0 h1, size44]
  rfl
theorem run_lh (p : Option Addr) (n cap : Nat) (l h : Int) (u : World) (h0 : 0 ≤ l) (h1 : l ≤ h) (h2 : h ≤ cap) : (Instr.sliceAt 44 (.slice p n cap) (some (.int .i64 l)) (some (.int .i64 h)) none).run Try.prog u = .ok (sliced p l.toNat h.toNat cap 6) u := by
  rw [run_sliceAt_slice u 44 _ _ _ _ Try.underlying44, run_slice_lh u 44 p n cap Try.underlying44 .i64 .i64 l h h0 h1 h2, size44]
  rfl
theorem flat_one {zs : List (F × Value)} (h : ∀ z ∈ zs, z.2.oneCell' = true) : ∀ u ∈ flatF zs, u.oneCell' = true := by
  intro u hu
  obtain ⟨z, hz, hu⟩ := List.mem_flatMap.1 hu
  simp only [rowF, List.mem_cons, List.not_mem_nil, or_false] at hu
  rcases hu with rfl | rfl | rfl | rfl | rfl | rfl
  · rfl
  · rfl
  · rfl
  · rfl
  · exact h z hz
  · rfl
/-- The cells of a row of frames behind an address. -/
theorem tail_cells {w : World} {g cap m k : Nat} {cur : Array Value} {zs : List (F × Value)} (hat : At w g 35 cur) (hm : zs.length = m) (hk : k < m) (htake : cur.toList.take (m * 6) = flatF zs) :
    ∃ A : Addr, sliced (some ⟨g, 0, none⟩) (k + 1) m cap 6 = .slice (some A) (m - (k + 1)) (cap - (k + 1)) ∧ (m ≤ cap → ∀ u, At u g 35 cur → ∀ j v, (flatF (zs.drop (k + 1)))[j]? = some v → u.cell? (A.add j) = some v) := by
  by_cases e : cap = k + 1
  · refine ⟨⟨g, 0, none⟩, by unfold sliced; rw [if_pos e], fun hc u hu j v hj => ?_⟩
    have h0 : zs.drop (k + 1) = [] := List.drop_eq_nil_of_le (by omega)
    rw [h0] at hj
    simp [flatF] at hj
  · refine ⟨⟨g, (k + 1) * 6, none⟩, by unfold sliced; rw [if_neg e]; simp [Addr.add], fun hc u hu j v hj => ?_⟩
    rw [flatF_drop, ← htake, List.getElem?_drop] at hj
    rw [add_none, hu.cell]
    have : (k + 1) * 6 + j < m * 6 := by
      have := (List.getElem?_eq_some_iff.1 hj).1
      rw [List.length_take] at this
      omega
    rw [List.getElem?_take_of_lt this] at hj
    simpa using hj
/-- What the append of Delete leaves. -/
theorem run_close {w : World} {g cap m k : Nat} {cur : Array Value} {zs : List (F × Value)} (ty : TypeId) (hat : At w g 35 cur) (hcap : m ≤ cap) (hsz : cur.size = cap * 6) (hm : zs.length = m) (hk : k < m) (htake : cur.toList.take (m * 6) = flatF zs) (hone : ∀ z ∈ zs, z.2.oneCell' = true) (A : Addr) (c' : Nat)
    (hA : ∀ j v, (flatF (zs.drop (k + 1)))[j]? = some v → w.cell? (A.add j) = some v) :
    ∃ cs, (Builtin.append_ #[44, 44] ty #[.slice (some ⟨g, 0, none⟩) k cap, .slice (some A) (m - (k + 1)) c']).run Try.prog w = .ok (.slice (some ⟨g, 0, none⟩) (m - 1) cap) (w.setRow g cs) ∧ cs.size = cap * 6 ∧ cs.toList.take ((m - 1) * 6) = flatF (zs.eraseIdx k) := by
  obtain ⟨i, i1, i2, i3, i4⟩ := info_parts info35
  have hl : (flatF (zs.drop (k + 1))).length = (m - (k + 1)) * i.size := by rw [flatF_length, List.length_drop, hm, i3]
  have hrun := run_append_room (P := Try.prog) w 44 ty 35 i Try.underlying44 i1 g k cap cur hat A (m - (k + 1)) c' (flatF (zs.drop (k + 1))) hl hA (flat_one fun z hz => hone z (List.mem_of_mem_drop hz)) (by omega) (by rw [hl, i3, hsz]; omega)
  rw [i3] at hrun hl
  refine ⟨_, by rw [show m - 1 = k + (m - (k + 1)) from by omega]; exact hrun, ?_, ?_⟩
  · simp [hl, hsz]; omega
  · have h1 : cur.toList.take (k * 6) = flatF (zs.take k) := by
      rw [flatF_take, ← htake, List.take_take, show min (k * 6) (m * 6) = k * 6 from by omega]
    have h2 : zs.eraseIdx k = zs.take k ++ zs.drop (k + 1) := List.eraseIdx_eq_take_drop_succ ..
    rw [h1, h2, flatF_append]
    have h3 : (flatF (zs.take k)).length = k * 6 := by rw [flatF_length, List.length_take, hm]; omega
    have h4 : (flatF (zs.take k) ++ flatF (zs.drop (k + 1))).length = (m - 1) * 6 := by rw [List.length_append, h3, hl]; omega
    show List.take ((m - 1) * 6) (flatF (zs.take k) ++ flatF (zs.drop (k + 1)) ++ _) = _
    rw [← h4, List.take_left']
    rfl
/-- 'clear' of the last one. -/
theorem run_clear1 (w : World) (ty : TypeId) (g m cap : Nat) (cur : Array Value) (hat : At w g 35 cur) (hsz : cur.size = cap * 6) (hm : m < cap) (c : Nat) :
    ∃ cs, (Builtin.clear_ #[44] ty #[.slice (some ⟨g, m * 6, none⟩) 1 c]).run Try.prog w = .ok (.tuple #[]) (w.setRow g cs) ∧ cs.size = cap * 6 ∧ cs.toList.take (m * 6) = cur.toList.take (m * 6) := by
  obtain ⟨i, i1, i2, i3, i4⟩ := info_parts info35
  have hz : (Builtin.zeroCells (Value.agg #[.int .i64 0, .int .i64 0, .int .i64 0, .int .i64 0, .slice none 0 0, .bool false]).cells 1).toList = [.int .i64 0, .int .i64 0, .int .i64 0, .int .i64 0, .slice none 0 0, .bool false] := by kernel_rfl
  have hst := run_storeCells_at Try.prog g (m * 6) 35 [.int .i64 0, .int .i64 0, .int .i64 0, .int .i64 0, .slice none 0 0, .bool false] 0 cur w hat (by simp; omega) (by intro v hv; simp at hv; rcases hv with rfl | rfl | rfl <;> rfl)
  obtain ⟨cs, hcs⟩ : ∃ cs, (cur.toList.take (m * 6 + 0) ++ [Value.int .i64 0, .int .i64 0, .int .i64 0, .int .i64 0, .slice none 0 0, .bool false] ++ cur.toList.drop (m * 6 + 0 + [Value.int .i64 0, .int .i64 0, .int .i64 0, .int .i64 0, .slice none 0 0, .bool false].length)).toArray = cs := ⟨_, rfl⟩
  rw [hcs] at hst
  refine ⟨cs, ?_, ?_, ?_⟩
  · simp [Builtin.clear_, run_underlying Try.underlying44, zeroValue, typeInfo, i1, i2, hz]
    rw [hst]
    rfl
  · rw [← hcs]
    simp
    omega
  · rw [← hcs]
    have hl : (cur.toList.take (m * 6)).length = m * 6 := by rw [List.length_take, Array.length_toList (xs := cur)]; omega
    show List.take (m * 6) (cur.toList.take (m * 6) ++ _ ++ _) = _
    rw [List.append_assoc]
    exact List.take_left' hl
set_option maxRecDepth 100000 in
set_option maxHeartbeats 1600000 in
theorem deleteF {X : Nat → Prop} {w : World} {v : Value} {zs : List (F × Value)} (h : OwnF X w v zs) (m k : Nat) (hm : zs.length = m) (hk : k < m) (hm1 : m ≤ 1024) :
    Calls Try.prog 25 #[v, .int .i64 k, .int .i64 (k + 1)] w fun e w' => ∃ v', e = .returned v' ∧ OwnF X w' v' (zs.eraseIdx k) ∧ w.grownBy w' v.ownBlock ∧ v'.ownBlock = v.ownBlock := by
  have H := Lib.hid h
  have hone : ∀ z ∈ zs, z.2.oneCell' = true := fun z hz => (h.bytes z hz).one
  obtain ⟨_, hrow⟩ := h.row
  rcases hrow with ⟨rfl, h0⟩ | ⟨g, cap, cur, rfl, _, hgg, hle, hmax, hsz, htake⟩
  · omega
  rw [hm] at hle htake ⊢
  have hat : At w g 35 cur := hgg
  have HA := Lib.hid hat
  have HD := Lib.hid (And.intro hsz htake)
  obtain ⟨A, hA1, hA2⟩ := tail_cells (cap := cap) hat hm hk htake
  have R22 : ∀ u, (Instr.sliceAt 44 (.slice (some ⟨g, 0, none⟩) m cap) none (some (.int .i64 k)) none).run Try.prog u = .ok (.slice (some ⟨g, 0, none⟩) k cap) u := fun u => by
    rw [run_h _ _ _ _ _ (by omega) (by omega)]
    unfold sliced
    simp [Addr.add, show ¬ cap = 0 by omega]
  have R25 : ∀ u, (Instr.sliceAt 44 (.slice (some ⟨g, 0, none⟩) m cap) (some (.int .i64 ((k : Int) + 1))) none none).run Try.prog u = .ok (.slice (some A) (m - (k + 1)) (cap - (k + 1))) u := fun u => by
    rw [run_l _ _ _ _ _ (by omega) (by omega), show ((k : Int) + 1).toNat = k + 1 from by omega, hA1]
  have R31 : ∀ u, (Instr.sliceAt 44 (.slice (some ⟨g, 0, none⟩) (m - 1) cap) (some (.int .i64 ((m - 1 : Nat) : Int))) (some (.int .i64 m)) none).run Try.prog u = .ok (.slice (some ⟨g, (m - 1) * 6, none⟩) 1 (cap - (m - 1))) u := fun u => by
    rw [run_lh _ _ _ _ _ _ (by omega) (by omega) (by omega), show (((m - 1 : Nat) : Int)).toNat = m - 1 from by omega, show (m : Int).toNat = m from by omega]
    unfold sliced
    rw [if_neg (by omega), show m - (m - 1) = 1 from by omega]
    simp [Addr.add]
    omega
  have R13 := fun u => run_lhm (some ⟨g, 0, none⟩) m cap k ((k : Int) + 1) m u (by omega) (by omega) (by omega) (by omega)
  have PC := Lib.hid (fun ty u (hu : At u g 35 cur) => run_close ty hu hle hsz hm hk htake hone A (cap - (k + 1)) (hA2 hle u hu))
  obtain ⟨r13, hr13⟩ : ∃ r, sliced (some (⟨g, 0, none⟩ : Addr)) (k : Int).toNat ((k : Int) + 1).toNat (m : Int).toNat 6 = r := ⟨_, rfl⟩
  rw [hr13] at R13
  have HR13 := Lib.hid R13
  have HR22 := Lib.hid R22
  have HR25 := Lib.hid R25
  have HR31 := Lib.hid R31
  obtain ⟨m1, hm1'⟩ : ∃ m1, m - 1 = m1 := ⟨_, rfl⟩
  obtain ⟨c1, hc1⟩ : ∃ c1, cap - (k + 1) = c1 := ⟨_, rfl⟩
  obtain ⟨n1, hn1⟩ : ∃ n1, m - (k + 1) = n1 := ⟨_, rfl⟩
  obtain ⟨c2, hc2⟩ : ∃ c2, cap - m1 = c2 := ⟨_, rfl⟩
  rw [hm1', hc2] at HR31
  rw [hn1, hc1] at HR25 PC
  rw [hm1'] at PC
  have HN := Lib.hid (And.intro hm (And.intro hm1' (And.intro hle (And.intro hk hmax))))
  have hk63 : (k : Int) ≤ 1023 := by omega
  have hmm : m1 ≤ 1023 := by omega
  clear h hgg hat hsz htake hA1 hA2 hr13 R13 R22 R25 R31 hn1 hc1 hc2 hm hm1' hle hmax hone
  go_enter Try.func25, Try.ntmps25
  go_upto_region 5 with ((with_reducible refine wpl_sliceR rfl 44 _ _ _ _ rfl (.slice (some ⟨g, 0, none⟩) m cap) r13 (some (.int .i64 k)) (some (.int .i64 (k + 1))) (some (.int .i64 m)) ?_ ?_ ?_ ?_ (HR13.out _) ?_); rfl; rfl; rfl; rfl)
  refine Mono.wp_region_monoT 6 [some 20, some 21, some 22, some 23, some 24, some 25] [Mono.isV (.slice (some ⟨g, 0, none⟩) m cap), Mono.isV (.int .i64 k), Mono.isV (.slice (some ⟨g, 0, none⟩) k cap), Mono.isV (.slice (some ⟨g, 0, none⟩) m cap), Mono.isV (.int .i64 ((k : Int) + 1)), Mono.isV (.slice (some A) n1 c1)] (by kernel_rfl) (by kernel_rfl) ?_ ?_
  · simp only [Mono.OpGoals, List.take_succ_cons, List.take_zero, and_true]
    refine ⟨?_, ?_, ?_, ?_, ?_, ?_⟩
    · intro a u hbu hsu hdu
      refine Mono.if_want rfl ?_
      exact Mono.ok_move (.tmp 0) rfl (hsu 0 (by decide))
    · intro a u hbu hsu hdu
      refine Mono.if_want rfl ?_
      exact Mono.ok_move (.tmp 1) rfl (hsu 1 (by decide))
    · intro a u hbu hsu hdu
      refine Mono.if_want rfl ?_
      have z20 : a.eval (.tmp 20) = .slice (some ⟨g, 0, none⟩) m cap := Mono.dep_at hdu (i := 0) (d := 20) rfl rfl rfl
      have z21 : a.eval (.tmp 21) = .int .i64 k := Mono.dep_at hdu (i := 1) (d := 21) rfl rfl rfl
      exact ok_sliceR 44 (.tmp 20) none (some (.tmp 21)) none rfl _ _ none (some (.int .i64 k)) none z20 rfl (congrArg some z21) rfl (HR22.out u) rfl
    · intro a u hbu hsu hdu
      refine Mono.if_want rfl ?_
      exact Mono.ok_move (.tmp 0) rfl (hsu 0 (by decide))
    · intro a u hbu hsu hdu
      refine Mono.if_want rfl ?_
      exact Mono.ok_move (.tmp 2) rfl (hsu 2 (by decide))
    · intro a u hbu hsu hdu
      refine Mono.if_want rfl ?_
      have z23 : a.eval (.tmp 23) = .slice (some ⟨g, 0, none⟩) m cap := Mono.dep_at hdu (i := 3) (d := 23) rfl rfl rfl
      have z24 : a.eval (.tmp 24) = .int .i64 ((k : Int) + 1) := Mono.dep_at hdu (i := 4) (d := 24) rfl rfl rfl
      exact ok_sliceR 44 (.tmp 23) (some (.tmp 24)) none none rfl _ _ (some (.int .i64 ((k : Int) + 1))) none none z23 (congrArg some z24) rfl rfl (HR25.out u) rfl
  intro u hu
  simp only [Mono.Fin]
  rintro _ rfl _ rfl _ rfl _ rfl _ rfl _ rfl
  simp [Act.put]
  have hat5 := HA.out.ext hu
  obtain ⟨cs, hrun, hcs⟩ := PC.out 44 u hat5
  obtain ⟨x, hx⟩ : ∃ x, u.setRow g cs = x := ⟨_, rfl⟩
  rw [hx] at hrun
  have hgx : w.grownBy x (some g) := by rw [← hx]; exact grown_trans (grown_below _ hu) ⟨rfl, rfl, rfl, by simp, fun q _ hq => setRow_other _ _ _ _ (fun e => hq (by rw [e]))⟩
  have hatx : At x g 35 cs := by rw [← hx]; exact At.row hat5
  obtain ⟨cs2, hcl, hcs2⟩ := run_clear1 x 0 g m1 cap cs hatx hcs.1 (by have := HN.out; omega) c2
  obtain ⟨y, hy⟩ : ∃ y, x.setRow g cs2 = y := ⟨_, rfl⟩
  rw [hy] at hcl
  have HG := Lib.hid (show w.grownBy y (some g) by rw [← hy]; exact grown_trans hgx ⟨rfl, rfl, rfl, by simp, fun q _ hq => setRow_other _ _ _ _ (fun e => hq (by rw [e]))⟩)
  have HY := Lib.hid (show At y g 35 cs2 by rw [← hy]; exact At.row hatx)
  have HCS := Lib.hid (And.intro hcs hcs2)
  have HU := Lib.hid (And.intro hu hat5)
  clear hx hy hat5 hatx hgx hcs hcs2 hu
  go_wp2_with (first
    | ((with_reducible refine wpl_appendV rfl 44 (.tmp 22) (.tmp 25) rfl (.slice (some ⟨g, 0, none⟩) k cap) (.slice (some A) n1 c1) (.slice (some ⟨g, 0, none⟩) m1 cap) x ?_ ?_ hrun ?_); rfl; rfl)
    | ((with_reducible refine wpl_sliceR rfl 44 _ _ _ _ rfl (.slice (some ⟨g, 0, none⟩) m1 cap) (.slice (some ⟨g, m1 * 6, none⟩) 1 c2) (some (.int .i64 m1)) (some (.int .i64 m)) none ?_ ?_ ?_ ?_ (HR31.out _) ?_); rfl; rfl; rfl; rfl))
  go_ret
  have hN := HN.out
  have hC := HCS.out
  have hG := HG.out
  have hl : (zs.eraseIdx k).length = m1 := by rw [List.length_eraseIdx]; split <;> omega
  have hO := H.out
  rw [hN.1] at hO
  have hrow := hO.row
  have hby := hO.bytes
  have hap := hO.apart
  have hmi := hO.mine
  refine ⟨_, rfl, ⟨⟨by rw [flatF_length], .inr ⟨g, cap, cs2, by rw [hl]; rfl, Nat.zero_le _, HY.out, by omega, hN.2.2.2.2, hC.2.1, by rw [hl, hC.2.2]; exact hC.1.2⟩⟩, hmi, fun z hz => ?_, hap.sublist (List.eraseIdx_sublist ..)⟩, hG, rfl⟩
  exact (hby z (List.mem_of_mem_eraseIdx hz)).kept hG (own_ne2 (v' := .slice (some ⟨g, 0, none⟩) m cap) (hby z (List.mem_of_mem_eraseIdx hz)).1 hrow (by decide))
set_option maxRecDepth 100000 in
set_option maxHeartbeats 800000 in
theorem TakeNil (k : Int) (w : World) : Calls Try.prog 14 #[.pointer none, .int .i64 k] w fun e w' => e = .returned (.tuple #[.agg zero35, .int .i64 1]) ∧ Below w.heap.size w w' := by
  go_enter Try.func14, Try.ntmps14
  go_wp2_with (first
    | ((with_reducible refine wpl_allocAt rfl 35 rfl zero35 (by kernel_rfl) ?_); go_must (intro w1 hat1 hb1 hs1; clear hs1))
    | (go_at_call 24; go_must (refine (faultNil _ _).mono ?_; rintro e w2 ⟨rfl, rfl⟩))
    | ((with_reducible refine wpl_storeR rfl 35 (.tmp 4) (.tmp 13) rfl rfl w.heap.size 35 zero35 zero35 ?_ ?_ hat1 (by kernel_rfl) ?_ ?_ ?_); rfl; rfl; rfl; (simp [zero35, Value.oneCell']); go_must (intro w3 hat3 hg3; have hu3 := below_grown hb1 hg3 hb1.size (Nat.le_refl _))))
  exact end_cell_tmp (fn := Try.f14) (p := 4) (u := 5) (ty := 35) (by kernel_rfl) rfl hat3 Try.underlying35 rfl (by kernel_rfl) rfl rfl ⟨rfl, hu3⟩
set_option maxRecDepth 100000 in
set_option maxHeartbeats 800000 in
theorem TakeNone {X : Nat → Prop} {w : World} {S : Nat} {hosts : Int} {fs : List F} {cut : Int → Int → Int → Bool} {n : Nat} (h : Net X w S hosts fs cut n) (k : Int) (hk : inB fs.length k = false) :
    Calls Try.prog 14 #[.pointer (some ⟨S, 0, none⟩), .int .i64 k] w fun e w' => e = .returned (.tuple #[.agg zero35, .int .i64 8]) ∧ Below w.heap.size w w' := by
  obtain ⟨zs, p, m, c, b, D, h⟩ := h
  have hm1 := h.ok.1
  rw [h.flen] at hk hm1
  have PF := Lib.hid (fun u (hu : Below w.heap.size w u) => by have := fault S m c p _ _ k u (h.row.ext hu) hm1; rw [show faultE m k = 8 from by unfold faultE; rw [hk]; rfl] at this; exact this)
  clear h hm1 hk
  go_enter Try.func14, Try.ntmps14
  go_wp2_with (first
    | ((with_reducible refine wpl_allocAt rfl 35 rfl zero35 (by kernel_rfl) ?_); go_must (intro w1 hat1 hb1 hs1; clear hs1))
    | (go_at_call 24; go_must (refine (PF.out _ hb1).mono ?_; rintro e w2 ⟨rfl, rfl⟩))
    | ((with_reducible refine wpl_storeR rfl 35 (.tmp 4) (.tmp 13) rfl rfl w.heap.size 35 zero35 zero35 ?_ ?_ hat1 (by kernel_rfl) ?_ ?_ ?_); rfl; rfl; rfl; (simp [zero35, Value.oneCell']); go_must (intro w3 hat3 hg3; have hu3 := below_grown hb1 hg3 hb1.size (Nat.le_refl _))))
  exact end_cell_tmp (fn := Try.f14) (p := 4) (u := 5) (ty := 35) (by kernel_rfl) rfl hat3 Try.underlying35 rfl (by kernel_rfl) rfl rfl ⟨rfl, hu3⟩
set_option maxRecDepth 100000 in
set_option maxHeartbeats 1600000 in
theorem TakeZ {X : Nat → Prop} {w : World} {S : Nat} {hosts : Int} {fs : List F} {cut : Int → Int → Int → Bool} {n : Nat} {zs : List (F × Value)} {p : Option Addr} {m c b : Nat} {D : DataW Unit} (h : Has X w S hosts fs cut n zs p m c b D) (k : Nat) (hk : k < m) (z : F × Value) (hz : zs[k]? = some z) :
    Calls Try.prog 14 #[.pointer (some ⟨S, 0, none⟩), .int .i64 k] w fun e w' => e = .returned (.tuple #[.agg (rowF z.1 z.2).toArray, .int .i64 0]) ∧ (∃ p' c', Has X w' S hosts (fs.eraseIdx k) cut n (zs.eraseIdx k) p' (m - 1) c' b D) ∧ Own8 X w' z.2 z.1.bytes ∧ ButX X w w' := by
  have hm1 := h.ok.1
  rw [h.flen] at hm1
  have PF := Lib.hid (fun u (hu : Below w.heap.size w u) => by have := fault S m c p _ _ k u (h.row.ext hu) hm1; rw [show faultE m k = 0 from by unfold faultE inB; rw [decide_eq_true (by omega)]; rfl] at this; exact this)
  have PD := Lib.hid (fun u (hu : Below w.heap.size w u) => deleteF (h.list.below hu) m k h.len hk hm1)
  obtain ⟨g, c', ec, hgl, hXg, _, hra, h8⟩ := h.list.elem k z hz
  rw [h.len] at ec
  have hone := h8.one
  have HRA := Lib.hid (fun u (hu : Below w.heap.size w u) => range_below (b := g) (off := k * 6) (cs := rowF z.1 z.2) hra hu hgl)
  have H := Lib.hid h
  have H8 := Lib.hid h8
  have hrow := h.row
  cases ec
  obtain ⟨f, d⟩ := z
  obtain ⟨pd, cd, rfl, _⟩ : ∃ pd cd, d = .slice pd f.bytes.length cd ∧ True := by obtain ⟨pd, cd, e, _⟩ := h8.1.reads; exact ⟨pd, cd, e, trivial⟩
  have HGL := Lib.hid hgl
  have hm63 : m ≤ 9223372036854775807 := by omega
  clear h h8 hra hone hgl
  go_enter Try.func14, Try.ntmps14
  go_wp2_with (first
    | (have _t := hrow; clear _t; (with_reducible refine wpl_allocAt rfl 35 rfl zero35 (by kernel_rfl) ?_); go_must (intro w1 hat1 hb1 hs1; have lS := hrow.lt; have hrow1 := hrow.ext hb1; clear hrow; have c1 := hrow1.cell 1; simp at c1; have HS1 := Lib.hid hs1; clear hs1))
    | (go_at_call 24; go_must (refine (PF.out _ hb1).mono ?_; rintro e w2 ⟨rfl, rfl⟩; have HRA2 := Lib.hid (HRA.out _ hb1)))
    | ((with_reducible refine wpl_loadE rfl 35 (.tmp 20) rfl g (k * 6) ?_ (rowF f (.slice pd f.bytes.length cd)).toArray _ HRA2.out Try.underlying35 rfl (by kernel_rfl) ?_); rfl; clear HRA2)
    | ((with_reducible refine wpl_allocAt rfl 35 rfl zero35 (by kernel_rfl) ?_); go_must (intro w3 hat3 hb3 hs3; have hatr := hat1.ext hb3; have hu3 := hb1.trans (hb3.mono hb1.size); have hrow3 := hrow1.ext hb3; clear hs3 hat1 c1 hrow1))
    | ((with_reducible refine wpl_storeR rfl 35 (.tmp 7) (.tmp 21) rfl rfl w2.heap.size 35 zero35 (rowF f (.slice pd f.bytes.length cd)).toArray ?_ ?_ hat3 (by kernel_rfl) ?_ ?_ ?_); rfl; rfl; rfl; (simp [rowF, Value.oneCell']); go_must (intro w4 hat4 hg4; have hu4 := below_grown hu3 hg4 hu3.size hb1.size; have hatr4 := hatr.grown hg4 (by have := HS1.out; omega); have hatr7lt := Lib.hid hatr4.lt; have hrow4 := hrow3.grown hg4 (by have := HS1.out; omega); clear hat3 hg4 hu3 hatr hrow3; have c1 := hrow4.cell 1; simp at c1))
    | (go_at_call 25; go_must (refine (PD.out _ hu4).mono ?_; rintro e w5 ⟨v5, rfl, ho5, hg5, hv5⟩; obtain ⟨p5, c5, rfl, _⟩ := ho5.shape; have hL5 : (zs.eraseIdx k).length = m - 1 := (by have := H.out.len; rw [List.length_eraseIdx]; split <;> omega); rw [hL5] at ho5 hv5; have HV5 := Lib.hid hv5; clear hv5; have hne := own_ne (H.out.list.below hu4).row hrow4 (by decide); have hgw := HGL.out; have hT := hu4.size; have hrow5 := hrow4.grown (k := g) hg5 (fun e => hne (by rw [e]; rfl)); have hat5 := hat4.grown (k := g) hg5 (by have := hb1.size; omega); have hatr5 := hatr4.grown (k := g) hg5 (by omega); have HO5 := Lib.hid ho5; have HG5 := Lib.hid hg5; have HU4 := Lib.hid hu4; clear c1 hrow4 hat4 hatr4 ho5 hg5 hne hgw hT))
    | ((with_reducible refine wpl_storeC rfl 44 (.tmp 32) (.tmp 30) rfl rfl S 1 61 #[.int .i64 hosts, .slice (some ⟨g, 0, none⟩) m c, .map (some b)] #[.int .i64 hosts, .slice p5 (m - 1) c5, .map (some b)] (.slice p5 (m - 1) c5) ?_ ?_ hrow5 ?_ (by kernel_rfl) ?_ ?_ ?_); rfl; rfl; exact (show (1 : Nat) < 3 by decide); rfl; rfl; go_must (intro w6 hrow6 hg6; have HNE := Lib.hid (show S ≠ w2.heap.size ∧ S ≠ w.heap.size from ⟨at_ne hrow5 hat5 (by decide), at_ne hrow5 hatr5 (by decide)⟩); have hat6 := hat5.grown hg6 (Ne.symm HNE.out.1); have hatr6 := hatr5.grown hg6 (Ne.symm HNE.out.2); have HG6 := Lib.hid (And.intro hg6 hrow5); clear hg6 hat5 hatr5 hrow5))
    | ((with_reducible refine wpl_loadAt rfl 35 (.tmp 7) rfl w2.heap.size 35 (rowF f (.slice pd f.bytes.length cd)).toArray hat6 _ Try.underlying35 rfl (by kernel_rfl) ?_ ?_); rfl)
    | ((with_reducible refine wpl_storeR rfl 35 (.tmp 4) (.tmp 33) rfl rfl w.heap.size 35 zero35 (rowF f (.slice pd f.bytes.length cd)).toArray ?_ ?_ hatr6 (by kernel_rfl) ?_ ?_ ?_); rfl; rfl; rfl; (simp [rowF, Value.oneCell']); go_must (intro w7 hat7 hg7; have hrow7 := hrow6.grown hg7 HNE.out.2)))
  have hh := H.out
  have hb := hh.map.lt
  have hg5 := HG5.out
  have hg6 := HG6.out.1
  have hu4 := HU4.out
  have hgl := HGL.out
  have hT := hu4.size
  have lz : ∀ y ∈ zs, ∀ q, y.2.ownBlock = some q → q < w.heap.size := fun y hy q hq => ((hh.list.bytes y hy).1.lt q hq).2
  have hzm : (f, Value.slice pd f.bytes.length cd) ∈ zs := List.mem_of_getElem? hz
  have o6 := HO5.out.at_ hg6 HG6.out.2 (by decide) (by decide)
  have o7 := o6.kept hg7 (.inr (fun e => by have e2 : some g = some w.heap.size := HV5.out.symm.trans e; have := Option.some.inj e2; omega)) (fun y hy => .inr (fun e => by have := lz y (List.mem_of_mem_eraseIdx hy) _ e; omega))
  have hbg : some b ≠ some g := fun e => by
    have e' : b = g := Option.some.inj e
    obtain ⟨cur, hc⟩ := own_at hh.list.row (g := g) rfl
    obtain ⟨es, clock, h5, _⟩ := hh.map
    rw [e', show w.heap[g]? = _ from hc] at h5
    cases h5
  have hbS : some b ≠ some S := fun e => by
    have e' : b = S := Option.some.inj e
    obtain ⟨es, clock, h5, _⟩ := hh.map
    rw [e', show w.heap[S]? = _ from hh.row] at h5
    cases h5
  have hmap := (((hh.map.kept (grown_below none hu4) (by simp)).kept hg5 hbg).kept hg6 hbS).kept hg7 (fun e => by have := Option.some.inj e; omega)
  have h84 := H8.out.below hu4
  have h85 := h84.kept hg5 (own_ne2 (v' := .slice (some ⟨g, 0, none⟩) m c) h84.1 (hh.list.below hu4).row (by decide))
  have h86 := h85.kept hg6 (.inr (own_ne h85.1 HG6.out.2 (by decide)))
  have h87 := h86.kept hg7 (.inr (fun e => by have := lz _ hzm _ e; omega))
  have hX : ButX X w w7 := (ButX.ofBelow hu4).trans ((((ButX.ofGrown (X := more X w w4) hg5 (fun q e => by cases e; exact .inl hXg)).trans ((ButX.ofGrown (X := more X w w4) hg6 (fun q e => by cases e; exact .inl hh.xS)).mono more_self))).trans ((ButX.ofGrown (X := more X w w4) hg7 (fun q e => by cases e; exact .inr ⟨Nat.le_refl _, by have := hatr7lt.out; omega⟩)).mono more_self))
  have hl := hh.len
  have hfl := hh.flen
  have e1 : (zs.eraseIdx k).length = m - 1 := by rw [List.length_eraseIdx]; split <;> omega
  refine end_cell_tmp (fn := Try.f14) (p := 4) (u := 5) (ty := 35) (by kernel_rfl) rfl hat7 Try.underlying35 rfl (by kernel_rfl) rfl rfl ⟨rfl, ⟨p5, c5, hrow7, hh.xS, hh.xb, ?_, e1, o7, hmap, hh.says, ⟨?_, fun q hq => hh.ok.2 q (List.mem_of_mem_eraseIdx hq)⟩, hh.few, hh.hosts⟩, h87, hX⟩
  · rw [← hh.fst, List.eraseIdx_eq_take_drop_succ, List.eraseIdx_eq_take_drop_succ, List.map_append, List.map_take, List.map_drop]
  · rw [List.length_eraseIdx]; split <;> omega
end Go.Proofs.Ytmdhpjbahenbhaa.Net
