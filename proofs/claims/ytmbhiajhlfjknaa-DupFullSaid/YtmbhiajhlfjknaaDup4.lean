/-
  Contract: Put of the first one.
-/
import Derived.Test.YtmbhiajhlfjknaaDup3
namespace Go.Proofs.Ytmbhiajhlfjknaa.Dup
open Go.RowKit Mem Cells Ops
set_option linter.unusedVariables false
set_option linter.unusedSimpArgs false

def zeroK : Array Value := #[.string .empty, .int .u32 0, .int .i64 0, .slice none 0 0]
theorem info46 : ∃ i z, Try.prog.info? 46 = some i ∧ i.zero = some z ∧ i.size = 4 ∧ i.bytes = 56 ∧ z.cells = zeroK := by
  have h : (Try.prog.info? 46).map (fun i => (i.zero.map (fun z => z.cells), i.size, i.bytes)) = some (some zeroK, 4, 56) := by kernel_rfl
  cases hi : Try.prog.info? 46 with
  | none => rw [hi] at h; cases h
  | some i =>
    rw [hi] at h
    simp at h
    obtain ⟨⟨z, hz, hzs⟩, h2, h3⟩ := h
    exact ⟨i, z, rfl, hz, h2, h3, hzs⟩
theorem noByteZ (n : Nat) : NoByte (Builtin.zeroCells zeroK n) := by
  intro j x h
  unfold Builtin.zeroCells at h
  rw [Array.getElem?_map] at h
  cases hr : (Array.range (n * zeroK.size))[j]? with
  | none => rw [hr] at h; cases h
  | some i =>
    rw [hr] at h
    simp only [Option.map_some, Option.some.injEq] at h
    have hs : zeroK.size = 4 := rfl
    rw [hs] at h
    have h4 : i % 4 < 4 := Nat.mod_lt _ (by omega)
    generalize i % 4 = q at h h4
    match q, h4 with
    | 0, _ => simp [zeroK] at h
    | 1, _ => simp [zeroK] at h
    | 2, _ => simp [zeroK] at h
    | 3, _ => simp [zeroK] at h
theorem noByteRow (k : K) (p : Option Addr) (n c : Nat) : NoByte (rowK k (.slice p n c)).toArray := by
  intro j x h
  simp only [rowK] at h
  match j with
  | 0 | 1 | 2 | 3 => simp at h
  | j + 4 => simp at h
theorem noByteApp {a b : Array Value} (ha : NoByte a) (hb : NoByte b) : NoByte (a ++ b) := by
  intro j x h
  rw [Array.getElem?_append] at h
  split at h
  · exact ha _ _ h
  · exact hb _ _ h
def rowKP (B : Nat) (k : K) : Mono.Prp := ⟨fun v u => ∃ p c, v = .agg (rowK k (.slice p k.bytes.length c)).toArray ∧ Row .u8 5 B u (.slice p k.bytes.length c) k.bytes, fun _ _ _ ⟨p, c, h1, h2⟩ hb => ⟨p, c, h1, h2.below hb⟩⟩
def listKP (B : Nat) (k : K) : Mono.Prp := ⟨fun v u => ∃ g p c, v = .slice (some ⟨g, 0, none⟩) 1 1 ∧ At u g 46 (rowK k (.slice p k.bytes.length c)).toArray ∧ Row .u8 5 B u (.slice p k.bytes.length c) k.bytes, fun _ _ _ ⟨g, p, c, h1, h2, h3⟩ hb => ⟨g, p, c, h1, h2.ext hb, h3.below hb⟩⟩
def ownKP (B : Nat) (ks : List K) : Mono.Prp := ⟨fun v u => OwnK B u v ks, fun _ _ _ h hb => h.below hb⟩
def rowB (B : Nat) (xs : List Int) : Mono.Prp := ⟨fun v u => Row .u8 5 B u v xs, fun _ _ _ h hb => h.below hb⟩
section
variable {w : World} {o : Oper} {a : Act} {R : Mono.Prp} {Q : Exit → Act → World → Prop}
theorem buildK (k : K) (d : Value) (w : World) : (Instr.buildSlice 37 1 #[(0, .agg (rowK k d).toArray)]).run Try.prog w = .ok (.slice (some ⟨w.heap.size, 0, none⟩) 1 1) (w.alloc (.cells (rowK k d).toArray 46)) := by
  kernel_rfl
theorem ok_listK (x : Operand) (ho : o.op = .buildSlice 37 1 #[(0, x)]) (k : K) (d : Value) (hx : a.eval x = .agg (rowK k d).toArray) (h : ∀ w', At w' w.heap.size 46 (rowK k d).toArray → Below w.heap.size w w' → R.R (.slice (some ⟨w.heap.size, 0, none⟩) 1 1) w') : o.wp Try.prog a w (Mono.Post o a w R) Q := by
  have hp : (#[(0, x)] : Array (Nat × Operand)).map (fun (i, x) => (i, a.eval x)) = #[(0, .agg (rowK k d).toArray)] := by simp [hx]
  unfold Oper.wp execOp
  simp only [ho, hp, Sem.run_bind, buildK k d w, Result.andThen_ok]
  have hb := (Below.refl w.heap.size w).alloc (Nat.le_refl _) (.cells (rowK k d).toArray 46)
  exact ⟨_, rfl, hb, h _ (At.new w 46 _) hb⟩
theorem ok_appK (s x : Operand) (ho : o.op = .call { callee := .builtin .append, args := #[s, x], argTypes := #[37, 37] }) (B : Nat) (k : K) (g : Nat) (p : Option Addr) (c : Nat) (hs : a.eval s = .slice none 0 0) (hx : a.eval x = .slice (some ⟨g, 0, none⟩) 1 1)
    (hat : At w g 46 (rowK k (.slice p k.bytes.length c)).toArray) (hd : Row .u8 5 B w (.slice p k.bytes.length c) k.bytes) (hB : B ≤ w.heap.size) (h : ∀ v' w', OwnK B w' v' [k] → R.R v' w') : o.wp Try.prog a w (Mono.Post o a w R) Q := by
  obtain ⟨i, z, i1, i2, i3, i4, i5⟩ := info46
  have hrun := run_append_nil (P := Try.prog) (w := w) 37 o.type 46 i z Try.underlying37 i1 i2 ⟨g, 0, none⟩ 1 1 (rowK k (.slice p k.bytes.length c)) (by rw [i3]; rfl) (fun j v hj => by rw [add_none, Nat.zero_add, hat.cell j]; simpa using hj) (by omega) (by omega) (by rw [i4]; omega)
  rw [i5] at hrun
  have hb : Below w.heap.size w (w.drew.alloc (.cells ((rowK k (.slice p k.bytes.length c)).toArray ++ Builtin.zeroCells zeroK (grownCap w 1 0 46 - 1)) 46)) := (Frame.ext_drew w).alloc (Nat.le_refl _) _
  have hge := grownCap_ge w 1 0 46
  unfold Oper.wp execOp
  simp only [ho, resolve, invoke, builtin, Sem.run_bind, Sem.run_pure, Result.andThen_ok, List.map_toArray, List.map_cons, List.map_nil, hs, hx, hrun]
  refine ⟨_, rfl, hb, h _ _ ⟨[(k, .slice p k.bytes.length c)], _, _, rfl, rfl, hge, grownCap_le_maxLen _ _ _ _ (by simp [maxLen]), fun y hy => ?_, .inr ⟨w.heap.size, 0, _, rfl, hB, At.new w.drew 46 _, ?_, noByteApp (noByteRow _ _ _ _) (noByteZ _), fun j u hj => ?_⟩⟩⟩
  · rw [List.mem_singleton] at hy
    subst hy
    refine ⟨hd.reads.below hb, fun h0 q hq => (hd.lt q hq).1⟩
  · simp [Builtin.zeroCells, rowK, zeroK]
    omega
  · rw [Nat.zero_add]
    have hj4 : j < 4 := (List.getElem?_eq_some_iff.1 hj).1
    rw [Array.getElem?_append_left (by simpa [rowK] using hj4)]
    simpa [flatK] using hj
end
/-- What Put does to memory besides its own new blocks: S alone turns. -/
def Turns (S : Nat) (w w' : World) : Prop := w.grownBy w' (some S)
set_option maxRecDepth 100000 in
set_option maxHeartbeats 1600000 in
theorem putFirst {B0 S : Nat} {w : World} {window most last : Int} (h : Has B0 w S window most last none 0 []) (host : ByteArray) (fin now : Int) (v : Value) (xs : List Int) (hr : Reads .u8 w v xs) (hx : xs.length ≤ 140737488355300) (hf : 0 ≤ fin ∧ fin ≤ 4294967295) (hlast : 0 ≤ last) (hnow : last ≤ now ∧ now ≤ 1099511627776) (hmost : 1 ≤ most) :
    Calls Try.prog 8 #[.pointer (some ⟨S, 0, none⟩), .string host, .int .u32 fin, v, .int .i64 now] w fun e w' => e = .returned (.int .i64 0) ∧ (∃ p c, Has w.heap.size w' S window most now p c [⟨host, fin, now, xs⟩]) ∧ w.grownBy w' (some S) := by
  have hi : i64 now := ⟨by omega, by omega⟩
  have PA := Lib.hid (age [] B0 now window most last none 0 S w h.own h.ok hi h.win h.row (fun k hk => by cases hk))
  have PF := Lib.hid (fun u (hb : Below w.heap.size w u) => find (h.below hb) host fin)
  have PC := Lib.hid (fun u (h : Reads .u8 u v xs) => Wire.clone v xs u h (by omega))
  have HR := Lib.hid hr
  have hrow : At w S 39 (rowS window most last (.slice none 0 0)) := h.row
  have HW := Lib.hid h.win
  have lS := hrow.lt
  obtain ⟨pv, cv, rfl, _⟩ := id hr
  have KOK := Lib.hid (show (⟨host, fin, now, xs⟩ : K).ok from ⟨hf, ⟨(show (0 : Int) ≤ now by omega), hnow.2⟩, hx⟩)
  have e1 : posI (hitB host fin) [] = -1 := rfl
  rw [e1] at PF
  obtain ⟨n, hnn⟩ : ∃ n, xs.length = n := ⟨_, rfl⟩
  have HN := Lib.hid hnn
  rw [hnn] at PC HR ⊢
  have hb9 : decide (most ≤ 0) = false := decide_eq_false (by omega)
  clear h hr e1 hi hnn
  go_enter Try.func8, Try.ntmps8
  go_upto_region 9 with (first
    | (go_at_call 11; go_must (refine PA.out.mono ?_; rintro e u1 ⟨rfl, hu⟩; have T1 := hu.size))
    | ((with_reducible refine wpl_allocAt rfl 42 rfl #[.string .empty, .int .u32 0] (by kernel_rfl) ?_); go_must (intro u2 hat hb hs; clear hs; have hu2 := hu.trans (hb.mono hu.size)))
    | ((with_reducible refine wpl_storeR rfl 42 (.tmp 11) (.tmp 19) rfl rfl u1.heap.size 42 #[.string .empty, .int .u32 0] #[.string host, .int .u32 fin] ?_ ?_ hat (by kernel_rfl) ?_ ?_ ?_); rfl; rfl; rfl; (simp [Value.oneCell']); go_must (intro u3 hat3 hg; have hu3 := below_grown hu2 hg hu2.size hu.size))
    | ((with_reducible refine wpl_loadAt rfl 42 (.tmp 11) rfl u1.heap.size 42 #[.string host, .int .u32 fin] hat3 _ Try.underlying42 rfl (by kernel_rfl) ?_ ?_); rfl)
    | (go_at_call 12; go_must (refine (PF.out _ hu3).mono ?_; rintro e u4 ⟨rfl, hb⟩; have hu4 := hu3.trans (hb.mono hu3.size); have hatk := hat3.ext hb; have hatS := hrow.ext hu4; have c3 := hatS.cell 3; simp [rowS] at c3)))
  have c1 := hatS.cell 1
  have c2 := hatS.cell 2
  simp [rowS] at c1 c2
  have lS4 := hatS.lt
  have hu40 := hu4
  have TS := hu4.size
  refine Mono.wp_region_mono [some 36, some 37, some 38, some 39, some 40, some 41, some 42, some 43, some 44, some 45] [Mono.isV (.pointer (some ⟨S, 0, none⟩)), Mono.isV (.pointer (some ⟨S, 0, none⟩)), Mono.isV (.pointer (some ⟨S, 2, none⟩)), Mono.isV (.slice none 0 0), Mono.isV (.int .i64 0), Mono.isV (.pointer (some ⟨S, 0, none⟩)), Mono.isV (.pointer (some ⟨S, 0, none⟩)), Mono.isV (.pointer (some ⟨S, 1, none⟩)), Mono.isV (.int .i64 most), Mono.isV (.bool false)] (by kernel_rfl) (by kernel_rfl) ?_ ?_
  · simp only [Mono.OpGoals, and_true]
    refine ⟨?_, ?_, ?_, ?_, ?_, ?_, ?_, ?_, ?_, ?_⟩
    · intro a u hbu hsu hdu
      have c1 := (hbu.cell (p := ⟨S, 1, none⟩) lS4).trans c1; have c2 := (hbu.cell (p := ⟨S, 2, none⟩) lS4).trans c2
      refine Mono.if_want rfl ?_
      exact Mono.ok_move (.tmp 0) rfl (hsu 0 (by decide))
    · intro a u hbu hsu hdu
      have c1 := (hbu.cell (p := ⟨S, 1, none⟩) lS4).trans c1; have c2 := (hbu.cell (p := ⟨S, 2, none⟩) lS4).trans c2
      refine Mono.if_want rfl ?_
      have z36 : a.eval (.tmp 36) = .pointer (some ⟨S, 0, none⟩) := Mono.dep_at hdu (i := 0) (d := 36) rfl rfl rfl
      simp [Act.eval] at z36
      exact Mono.ok_val (.pointer (some ⟨S, 0, none⟩)) (by simp [execOp, z36, go_sem, c1, c2, hb9]) rfl
    · intro a u hbu hsu hdu
      have c1 := (hbu.cell (p := ⟨S, 1, none⟩) lS4).trans c1; have c2 := (hbu.cell (p := ⟨S, 2, none⟩) lS4).trans c2
      refine Mono.if_want rfl ?_
      have z37 : a.eval (.tmp 37) = .pointer (some ⟨S, 0, none⟩) := Mono.dep_at hdu (i := 1) (d := 37) rfl rfl rfl
      simp [Act.eval] at z37
      exact Mono.ok_val (.pointer (some ⟨S, 2, none⟩)) (by simp [execOp, z37, go_sem, c1, c2, hb9]) rfl
    · intro a u hbu hsu hdu
      have c1 := (hbu.cell (p := ⟨S, 1, none⟩) lS4).trans c1; have c2 := (hbu.cell (p := ⟨S, 2, none⟩) lS4).trans c2
      refine Mono.if_want rfl ?_
      have z38 : a.eval (.tmp 38) = .pointer (some ⟨S, 2, none⟩) := Mono.dep_at hdu (i := 2) (d := 38) rfl rfl rfl
      simp [Act.eval] at z38
      exact Mono.ok_val (.slice none 0 0) (by simp [execOp, z38, go_sem, c1, c2, hb9]) rfl
    · intro a u hbu hsu hdu
      have c1 := (hbu.cell (p := ⟨S, 1, none⟩) lS4).trans c1; have c2 := (hbu.cell (p := ⟨S, 2, none⟩) lS4).trans c2
      refine Mono.if_want rfl ?_
      have z39 : a.eval (.tmp 39) = .slice none 0 0 := Mono.dep_at hdu (i := 3) (d := 39) rfl rfl rfl
      simp [Act.eval] at z39
      exact Mono.ok_val (.int .i64 0) (by simp [execOp, z39, go_sem, c1, c2, hb9]) rfl
    · intro a u hbu hsu hdu
      have c1 := (hbu.cell (p := ⟨S, 1, none⟩) lS4).trans c1; have c2 := (hbu.cell (p := ⟨S, 2, none⟩) lS4).trans c2
      refine Mono.if_want rfl ?_
      exact Mono.ok_move (.tmp 0) rfl (hsu 0 (by decide))
    · intro a u hbu hsu hdu
      have c1 := (hbu.cell (p := ⟨S, 1, none⟩) lS4).trans c1; have c2 := (hbu.cell (p := ⟨S, 2, none⟩) lS4).trans c2
      refine Mono.if_want rfl ?_
      have z41 : a.eval (.tmp 41) = .pointer (some ⟨S, 0, none⟩) := Mono.dep_at hdu (i := 5) (d := 41) rfl rfl rfl
      simp [Act.eval] at z41
      exact Mono.ok_val (.pointer (some ⟨S, 0, none⟩)) (by simp [execOp, z41, go_sem, c1, c2, hb9]) rfl
    · intro a u hbu hsu hdu
      have c1 := (hbu.cell (p := ⟨S, 1, none⟩) lS4).trans c1; have c2 := (hbu.cell (p := ⟨S, 2, none⟩) lS4).trans c2
      refine Mono.if_want rfl ?_
      have z42 : a.eval (.tmp 42) = .pointer (some ⟨S, 0, none⟩) := Mono.dep_at hdu (i := 6) (d := 42) rfl rfl rfl
      simp [Act.eval] at z42
      exact Mono.ok_val (.pointer (some ⟨S, 1, none⟩)) (by simp [execOp, z42, go_sem, c1, c2, hb9]) rfl
    · intro a u hbu hsu hdu
      have c1 := (hbu.cell (p := ⟨S, 1, none⟩) lS4).trans c1; have c2 := (hbu.cell (p := ⟨S, 2, none⟩) lS4).trans c2
      refine Mono.if_want rfl ?_
      have z43 : a.eval (.tmp 43) = .pointer (some ⟨S, 1, none⟩) := Mono.dep_at hdu (i := 7) (d := 43) rfl rfl rfl
      simp [Act.eval] at z43
      exact Mono.ok_val (.int .i64 most) (by simp [execOp, z43, go_sem, c1, c2, hb9]) rfl
    · intro a u hbu hsu hdu
      have c1 := (hbu.cell (p := ⟨S, 1, none⟩) lS4).trans c1; have c2 := (hbu.cell (p := ⟨S, 2, none⟩) lS4).trans c2
      refine Mono.if_want rfl ?_
      have z40 : a.eval (.tmp 40) = .int .i64 0 := Mono.dep_at hdu (i := 4) (d := 40) rfl rfl rfl
      simp [Act.eval] at z40
      have z44 : a.eval (.tmp 44) = .int .i64 most := Mono.dep_at hdu (i := 8) (d := 44) rfl rfl rfl
      simp [Act.eval] at z44
      exact Mono.ok_val (.bool false) (by simp [execOp, z40, z44, go_sem, c1, c2, hb9]) rfl
  intro u hu
  simp only [Mono.Fin]
  rintro _ rfl _ rfl _ rfl _ rfl _ rfl _ rfl _ rfl _ rfl _ rfl _ rfl
  have hu5 := hu40.trans (hu.mono hu40.size)
  have hatS5 := hatS.ext hu
  have hatk5 := hatk.ext hu
  have T5 := hu5.size
  clear hu hu4 hu40 hatS hatk c1 c2 c3 PF PA
  simp [Act.put]
  go_upto_region 12 with ((with_reducible refine wpl_storeC rfl 3 (.tmp 57) (.tmp 55) rfl rfl S 3 39 (rowS window most last (.slice none 0 0)) (rowS window most now (.slice none 0 0)) (.int .i64 now) ?_ ?_ hatS5 ?_ (by kernel_rfl) ?_ ?_ ?_); rfl; rfl; exact (show (3 : Nat) < 4 by decide); rfl; rfl; go_must (intro u6 hatS6 hg; have hgS := grown_trans (grown_below (some S) hu5) hg; have hr6 := reads_grown (HR.out.below hu5) hg (fun h0 q hq => (by cases hq; exact reads_apart hatS5 (noByteS _ _ _ _ _ _) (HR.out.below hu5) h0)); have hatk6 := hatk5.grown hg (by have := hatk5.lt; omega); have T6 := hg.size))
  have c2 := hatS6.cell 2
  simp [rowS] at c2
  have lS6 := hatS6.lt
  have T67 : w.heap.size ≤ u6.heap.size := by omega
  refine Mono.wp_region_monoT 14 [some 58, some 59, some 60, some 61, some 62, some 63, some 64, some 65, some 66, some 67, some 68, some 69, some 70, some 71] [Mono.isV (.pointer (some ⟨S, 0, none⟩)), Mono.isV (.pointer (some ⟨S, 0, none⟩)), Mono.isV (.pointer (some ⟨S, 0, none⟩)), Mono.isV (.pointer (some ⟨S, 2, none⟩)), Mono.isV (.slice none 0 0), Mono.isV (.agg #[.string host, .int .u32 fin]), Mono.isV (.int .i64 now), Mono.isV (.slice pv n cv), rowB w.heap.size xs, rowKP w.heap.size ⟨host, fin, now, xs⟩, listKP w.heap.size ⟨host, fin, now, xs⟩, ownKP w.heap.size [⟨host, fin, now, xs⟩], Mono.isV (.pointer (some ⟨S, 0, none⟩)), Mono.isV (.pointer (some ⟨S, 2, none⟩))] (by kernel_rfl) (by kernel_rfl) ?_ ?_
  · simp only [Mono.OpGoals, List.take_succ_cons, List.take_zero, and_true]
    refine ⟨?_, ?_, ?_, ?_, ?_, ?_, ?_, ?_, ?_, ?_, ?_, ?_, ?_, ?_⟩
    · intro a u hbu hsu hdu
      have c2 := (hbu.cell (p := ⟨S, 2, none⟩) lS6).trans c2
      refine Mono.if_want rfl ?_
      exact Mono.ok_move (.tmp 0) rfl (hsu 0 (by decide))
    · intro a u hbu hsu hdu
      have c2 := (hbu.cell (p := ⟨S, 2, none⟩) lS6).trans c2
      refine Mono.if_want rfl ?_
      exact Mono.ok_move (.tmp 0) rfl (hsu 0 (by decide))
    · intro a u hbu hsu hdu
      have c2 := (hbu.cell (p := ⟨S, 2, none⟩) lS6).trans c2
      refine Mono.if_want rfl ?_
      have z59 : a.eval (.tmp 59) = .pointer (some ⟨S, 0, none⟩) := Mono.dep_at hdu (i := 1) (d := 59) rfl rfl rfl
      simp [Act.eval] at z59
      exact Mono.ok_val (.pointer (some ⟨S, 0, none⟩)) (by simp [execOp, z59, go_sem, c2]) rfl
    · intro a u hbu hsu hdu
      have c2 := (hbu.cell (p := ⟨S, 2, none⟩) lS6).trans c2
      refine Mono.if_want rfl ?_
      have z60 : a.eval (.tmp 60) = .pointer (some ⟨S, 0, none⟩) := Mono.dep_at hdu (i := 2) (d := 60) rfl rfl rfl
      simp [Act.eval] at z60
      exact Mono.ok_val (.pointer (some ⟨S, 2, none⟩)) (by simp [execOp, z60, go_sem, c2]) rfl
    · intro a u hbu hsu hdu
      have c2 := (hbu.cell (p := ⟨S, 2, none⟩) lS6).trans c2
      refine Mono.if_want rfl ?_
      have z61 : a.eval (.tmp 61) = .pointer (some ⟨S, 2, none⟩) := Mono.dep_at hdu (i := 3) (d := 61) rfl rfl rfl
      simp [Act.eval] at z61
      exact Mono.ok_val (.slice none 0 0) (by simp [execOp, z61, go_sem, c2]) rfl
    · intro a u hbu hsu hdu
      have c2 := (hbu.cell (p := ⟨S, 2, none⟩) lS6).trans c2
      refine Mono.if_want rfl ?_
      exact Mono.ok_loadAt 42 (.tmp 11) rfl u1.heap.size 42 _ (hatk6.ext hbu) _ Try.underlying42 rfl (by kernel_rfl) (hsu 11 (by decide)) rfl
    · intro a u hbu hsu hdu
      have c2 := (hbu.cell (p := ⟨S, 2, none⟩) lS6).trans c2
      refine Mono.if_want rfl ?_
      exact Mono.ok_move (.tmp 4) rfl (hsu 4 (by decide))
    · intro a u hbu hsu hdu
      have c2 := (hbu.cell (p := ⟨S, 2, none⟩) lS6).trans c2
      refine Mono.if_want rfl ?_
      exact Mono.ok_move (.tmp 3) rfl (hsu 3 (by decide))
    · intro a u hbu hsu hdu
      have c2 := (hbu.cell (p := ⟨S, 2, none⟩) lS6).trans c2
      refine Mono.if_want rfl ?_
      have z65 : a.eval (.tmp 65) = .slice pv n cv := Mono.dep_at hdu (i := 7) (d := 65) rfl rfl rfl
      simp [Act.eval] at z65
      refine Mono.ok_call 13 _ _ rfl #[.slice pv n cv] (by simp [execOp, z65, go_sem]) ((PC.out u (hr6.below hbu)).mono ?_)
      rintro e y1 ⟨v1, rfl, hv1, hb1⟩
      exact ⟨_, rfl, hb1, hv1.mono (by have := hbu.size; omega)⟩
    · intro a u hbu hsu hdu
      have c2 := (hbu.cell (p := ⟨S, 2, none⟩) lS6).trans c2
      refine Mono.if_want rfl ?_
      have z63 : a.eval (.tmp 63) = .agg #[.string host, .int .u32 fin] := Mono.dep_at hdu (i := 5) (d := 63) rfl rfl rfl
      have z64 : a.eval (.tmp 64) = .int .i64 now := Mono.dep_at hdu (i := 6) (d := 64) rfl rfl rfl
      have q66 : Row .u8 5 w.heap.size u (a.eval (.tmp 66)) xs := Mono.dep_at hdu (i := 8) (d := 66) rfl rfl rfl
      obtain ⟨q, s, z66, _⟩ := q66.reads
      rw [z66] at q66
      simp [Act.eval] at z63 z64 z66
      exact Mono.ok_build 46 _ rfl #[(0, .agg #[.string host, .int .u32 fin]), (1, .int .i64 now), (2, .slice q xs.length s)] (by simp [z63, z64, z66, Act.eval]) (.agg (rowK ⟨host, fin, now, xs⟩ (.slice q xs.length s)).toArray) (by kernel_rfl) ⟨_, _, rfl, q66⟩
    · intro a u hbu hsu hdu
      have c2 := (hbu.cell (p := ⟨S, 2, none⟩) lS6).trans c2
      refine Mono.if_want rfl ?_
      obtain ⟨q, s, z67, r67⟩ := Mono.dep_at hdu (i := 9) (d := 67) rfl rfl rfl
      exact ok_listK (.tmp 67) rfl _ _ z67 (fun w9 h1 h2 => ⟨_, _, _, rfl, h1, r67.below h2⟩)
    · intro a u hbu hsu hdu
      have c2 := (hbu.cell (p := ⟨S, 2, none⟩) lS6).trans c2
      refine Mono.if_want rfl ?_
      obtain ⟨g, q, s, z68, h68, r68⟩ := Mono.dep_at hdu (i := 10) (d := 68) rfl rfl rfl
      exact ok_appK (.tmp 62) (.tmp 68) rfl w.heap.size _ g q s (Mono.dep_at hdu (i := 4) (d := 62) rfl rfl rfl) z68 h68 r68 (by have := hbu.size; omega) (fun _ _ h => h)
    · intro a u hbu hsu hdu
      have c2 := (hbu.cell (p := ⟨S, 2, none⟩) lS6).trans c2
      refine Mono.if_want rfl ?_
      have z58 : a.eval (.tmp 58) = .pointer (some ⟨S, 0, none⟩) := Mono.dep_at hdu (i := 0) (d := 58) rfl rfl rfl
      simp [Act.eval] at z58
      exact Mono.ok_val (.pointer (some ⟨S, 0, none⟩)) (by simp [execOp, z58, go_sem, c2]) rfl
    · intro a u hbu hsu hdu
      have c2 := (hbu.cell (p := ⟨S, 2, none⟩) lS6).trans c2
      refine Mono.if_want rfl ?_
      have z70 : a.eval (.tmp 70) = .pointer (some ⟨S, 0, none⟩) := Mono.dep_at hdu (i := 12) (d := 70) rfl rfl rfl
      simp [Act.eval] at z70
      exact Mono.ok_val (.pointer (some ⟨S, 2, none⟩)) (by simp [execOp, z70, go_sem, c2]) rfl
  intro u hu
  simp only [Mono.Fin]
  rintro _ rfl _ rfl _ rfl _ rfl _ rfl _ rfl _ rfl _ rfl v66 h66 v67 h67 v68 h68 v69 h69 _ rfl _ rfl
  have hown : OwnK w.heap.size u v69 [⟨host, fin, now, xs⟩] := h69
  obtain ⟨p9, c9, rfl, _, _⟩ := hown.shape
  rw [show ([⟨host, fin, now, xs⟩] : List K).length = 1 from rfl] at hown ⊢
  have hatS7 := hatS6.ext hu
  have hg7 := grown_trans hgS (grown_below (some S) hu)
  clear h66 h67 h68 h69
  simp [Act.put]
  go_wp2_with ((with_reducible refine wpl_storeC rfl 37 (.tmp 71) (.tmp 69) rfl rfl S 2 39 (rowS window most now (.slice none 0 0)) (rowS window most now (.slice p9 1 c9)) (.slice p9 1 c9) ?_ ?_ hatS7 ?_ (by kernel_rfl) ?_ ?_ ?_); rfl; rfl; exact (show (2 : Nat) < 4 by decide); rfl; rfl; go_must (intro u8 hatS8 hg; have hown8 := hown.kept hg (fun e => (by have := (hown.lt _ e).1; omega)) hatS7 (noByteS _ _ _ _ _ _); have hg8 := grown_trans hg7 hg))
  go_ret
  exact ⟨rfl, ⟨p9, c9, hatS8, hown8, (fun k hk => (by rw [List.mem_singleton] at hk; subst hk; exact KOK.out)), HW.out⟩, hg8⟩
end Go.Proofs.Ytmbhiajhlfjknaa.Dup
