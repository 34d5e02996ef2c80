/-
  Contract: Put of one more, where there are less than there may be.
-/
import Derived.Test.YtmbhiajhlfjknaaFull2
namespace Go.Proofs.Ytmbhiajhlfjknaa.Dup
open Go.RowKit Mem Cells Ops
set_option linter.unusedVariables false
set_option linter.unusedSimpArgs false

section
variable {P : Program} {w : World} {o : Oper} {a : Act} {K : Act → World → Prop} {Q : Exit → Act → World → Prop}
theorem wp_appendV (s x : Operand) (ho : o.op = .call { callee := .builtin .append, args := #[s, x], argTypes := #[37, 37] }) (vs vx r : Value) (w' : World) (hs : a.eval s = vs) (hx : a.eval x = vx)
    (hrun : (Builtin.append_ #[37, 37] o.type #[vs, vx]).run P w = .ok r w') (h : K (a.put o.dst r) w') : o.wp P a w K Q := by
  unfold Oper.wp execOp
  simp only [ho, resolve, invoke, builtin, Sem.run_bind, Sem.run_pure, Result.andThen_ok, List.map_toArray, List.map_cons, List.map_nil, hs, hx, hrun]
  exact h
theorem wp_buildT (T : TypeId) (parts : Array (Nat × Operand)) (ho : o.op = .build T parts) (vs : Array (Nat × Value)) (hx : parts.map (fun (i, x) => (i, a.eval x)) = vs) (r : Value) (hrun : (Instr.build T vs).run P w = .ok r w) (h : K (a.put o.dst r) w) : o.wp P a w K Q := by
  unfold Oper.wp execOp
  simp only [ho, hx, Sem.run_bind, hrun, Result.andThen_ok]
  exact h
end
set_option maxRecDepth 100000 in
set_option maxHeartbeats 3200000 in
theorem putMore {B S c : Nat} {w : World} {window most last : Int} {pl : Option Addr} {ks : List K} (h : Has B w S window most last pl c ks) (hSB : S < B) (hB : B ≤ w.heap.size) (host : ByteArray) (fin now : Int) (v : Value) (xs : List Int) (hr : Reads .u8 w v xs) (hx : xs.length ≤ 140737488355300) (hf : 0 ≤ fin ∧ fin ≤ 4294967295) (hlast : 0 ≤ last) (hnow : last ≤ now ∧ now ≤ 1099511627776) (hl : ks.length ≤ 100000) (hmost : (ks.length : Int) < most)
    (hno : ∀ k ∈ ks, oldB now window k = false) (hnew : ∀ k ∈ ks, hitB host fin k = false) :
    Calls Try.prog 8 #[.pointer (some ⟨S, 0, none⟩), .string host, .int .u32 fin, v, .int .i64 now] w fun e w' => e = .returned (.int .i64 0) ∧ (∃ p' c', Has B w' S window most now p' c' (ks ++ [⟨host, fin, now, xs⟩])) ∧ ∀ b, b ≤ S → b ≤ w.heap.size → Below b w w' := by
  have hi : i64 now := ⟨by omega, by omega⟩
  have PA := Lib.hid (age ks B now window most last pl c S w h.own h.ok hi h.win h.row hno)
  have PF := Lib.hid (fun u (hb : Below w.heap.size w u) => find (h.below hb) host fin)
  have PC := Lib.hid (fun u (h : Reads .u8 u v xs) => Wire.clone v xs u h (by omega))
  have HR := Lib.hid hr
  have HO := Lib.hid h.own
  have HW := Lib.hid h.win
  have hrow : At w S 39 (rowS window most last (.slice pl ks.length c)) := h.row
  have lS := hrow.lt
  obtain ⟨pv, cv, rfl, _⟩ := id hr
  have KOK := Lib.hid (show ∀ k ∈ ks ++ [(⟨host, fin, now, xs⟩ : K)], k.ok from fun k hk => by
    rcases List.mem_append.1 hk with hk | hk
    · exact h.ok k hk
    · rw [List.mem_singleton] at hk; subst hk
      exact ⟨hf, ⟨(show (0 : Int) ≤ now by omega), hnow.2⟩, hx⟩)
  have HL := hl
  rw [posI_none _ _ hnew] at PF
  obtain ⟨n, hnn⟩ : ∃ n, xs.length = n := ⟨_, rfl⟩
  have HN := Lib.hid hnn
  rw [hnn] at PC HR ⊢
  obtain ⟨m, hm⟩ : ∃ m, ks.length = m := ⟨_, rfl⟩
  have HM := Lib.hid hm
  rw [hm] at hrow HO hmost
  have hb9 : decide (most ≤ (m : Int)) = false := decide_eq_false (by omega)
  have hm63 : m ≤ 9223372036854775807 := by omega
  clear h hr hi hnn hm hno hnew
  go_enter Try.func8, Try.ntmps8
  go_upto_region 9 with (first
    | (go_at_call 11; go_must (refine PA.out.mono ?_; rintro e u1 ⟨rfl, hu⟩; have T1 := hu.size))
    | ((with_reducible refine wpl_allocAt rfl 42 rfl #[.string .empty, .int .u32 0] (by kernel_rfl) ?_); go_must (intro u2 hat hb hs; clear hs; have hu2 := hu.trans (hb.mono hu.size)))
    | ((with_reducible refine wpl_storeR rfl 42 (.tmp 11) (.tmp 19) rfl rfl u1.heap.size 42 #[.string .empty, .int .u32 0] #[.string host, .int .u32 fin] ?_ ?_ hat (by kernel_rfl) ?_ ?_ ?_); rfl; rfl; rfl; (simp [Value.oneCell']); go_must (intro u3 hat3 hg; have hu3 := below_grown hu2 hg hu2.size hu.size))
    | ((with_reducible refine wpl_loadAt rfl 42 (.tmp 11) rfl u1.heap.size 42 #[.string host, .int .u32 fin] hat3 _ Try.underlying42 rfl (by kernel_rfl) ?_ ?_); rfl)
    | (go_at_call 12; go_must (refine (PF.out _ hu3).mono ?_; rintro e u4 ⟨rfl, hb⟩; have hu4 := hu3.trans (hb.mono hu3.size); have hatk := hat3.ext hb; have hatS := hrow.ext hu4; have c3 := hatS.cell 3; simp [rowS] at c3)))
  have c1 := hatS.cell 1
  have c2 := hatS.cell 2
  simp [rowS] at c1 c2
  have lS4 := hatS.lt
  have hu40 := hu4
  have TS := hu4.size
  refine Mono.wp_region_mono [some 36, some 37, some 38, some 39, some 40, some 41, some 42, some 43, some 44, some 45] [Mono.isV (.pointer (some ⟨S, 0, none⟩)), Mono.isV (.pointer (some ⟨S, 0, none⟩)), Mono.isV (.pointer (some ⟨S, 2, none⟩)), Mono.isV (.slice pl m c), Mono.isV (.int .i64 m), Mono.isV (.pointer (some ⟨S, 0, none⟩)), Mono.isV (.pointer (some ⟨S, 0, none⟩)), Mono.isV (.pointer (some ⟨S, 1, none⟩)), Mono.isV (.int .i64 most), Mono.isV (.bool false)] (by kernel_rfl) (by kernel_rfl) ?_ ?_
  · simp only [Mono.OpGoals, and_true]
    refine ⟨?_, ?_, ?_, ?_, ?_, ?_, ?_, ?_, ?_, ?_⟩
    · intro a u hbu hsu hdu
      have c1 := (hbu.cell (p := ⟨S, 1, none⟩) lS4).trans c1; have c2 := (hbu.cell (p := ⟨S, 2, none⟩) lS4).trans c2
      refine Mono.if_want rfl ?_
      exact Mono.ok_move (.tmp 0) rfl (hsu 0 (by decide))
    · intro a u hbu hsu hdu
      have c1 := (hbu.cell (p := ⟨S, 1, none⟩) lS4).trans c1; have c2 := (hbu.cell (p := ⟨S, 2, none⟩) lS4).trans c2
      refine Mono.if_want rfl ?_
      have z36 : a.eval (.tmp 36) = .pointer (some ⟨S, 0, none⟩) := Mono.dep_at hdu (i := 0) (d := 36) rfl rfl rfl
      simp [Act.eval] at z36
      exact Mono.ok_val (.pointer (some ⟨S, 0, none⟩)) (by simp [execOp, z36, go_sem, c1, c2, hb9]) rfl
    · intro a u hbu hsu hdu
      have c1 := (hbu.cell (p := ⟨S, 1, none⟩) lS4).trans c1; have c2 := (hbu.cell (p := ⟨S, 2, none⟩) lS4).trans c2
      refine Mono.if_want rfl ?_
      have z37 : a.eval (.tmp 37) = .pointer (some ⟨S, 0, none⟩) := Mono.dep_at hdu (i := 1) (d := 37) rfl rfl rfl
      simp [Act.eval] at z37
      exact Mono.ok_val (.pointer (some ⟨S, 2, none⟩)) (by simp [execOp, z37, go_sem, c1, c2, hb9]) rfl
    · intro a u hbu hsu hdu
      have c1 := (hbu.cell (p := ⟨S, 1, none⟩) lS4).trans c1; have c2 := (hbu.cell (p := ⟨S, 2, none⟩) lS4).trans c2
      refine Mono.if_want rfl ?_
      have z38 : a.eval (.tmp 38) = .pointer (some ⟨S, 2, none⟩) := Mono.dep_at hdu (i := 2) (d := 38) rfl rfl rfl
      simp [Act.eval] at z38
      exact Mono.ok_val (.slice pl m c) (by simp [execOp, z38, go_sem, c1, c2, hb9]) rfl
    · intro a u hbu hsu hdu
      have c1 := (hbu.cell (p := ⟨S, 1, none⟩) lS4).trans c1; have c2 := (hbu.cell (p := ⟨S, 2, none⟩) lS4).trans c2
      refine Mono.if_want rfl ?_
      have z39 : a.eval (.tmp 39) = .slice pl m c := Mono.dep_at hdu (i := 3) (d := 39) rfl rfl rfl
      simp [Act.eval] at z39
      exact Mono.ok_val (.int .i64 m) (by simp [execOp, z39, go_sem, c1, c2, hb9]) rfl
    · intro a u hbu hsu hdu
      have c1 := (hbu.cell (p := ⟨S, 1, none⟩) lS4).trans c1; have c2 := (hbu.cell (p := ⟨S, 2, none⟩) lS4).trans c2
      refine Mono.if_want rfl ?_
      exact Mono.ok_move (.tmp 0) rfl (hsu 0 (by decide))
    · intro a u hbu hsu hdu
      have c1 := (hbu.cell (p := ⟨S, 1, none⟩) lS4).trans c1; have c2 := (hbu.cell (p := ⟨S, 2, none⟩) lS4).trans c2
      refine Mono.if_want rfl ?_
      have z41 : a.eval (.tmp 41) = .pointer (some ⟨S, 0, none⟩) := Mono.dep_at hdu (i := 5) (d := 41) rfl rfl rfl
      simp [Act.eval] at z41
      exact Mono.ok_val (.pointer (some ⟨S, 0, none⟩)) (by simp [execOp, z41, go_sem, c1, c2, hb9]) rfl
    · intro a u hbu hsu hdu
      have c1 := (hbu.cell (p := ⟨S, 1, none⟩) lS4).trans c1; have c2 := (hbu.cell (p := ⟨S, 2, none⟩) lS4).trans c2
      refine Mono.if_want rfl ?_
      have z42 : a.eval (.tmp 42) = .pointer (some ⟨S, 0, none⟩) := Mono.dep_at hdu (i := 6) (d := 42) rfl rfl rfl
      simp [Act.eval] at z42
      exact Mono.ok_val (.pointer (some ⟨S, 1, none⟩)) (by simp [execOp, z42, go_sem, c1, c2, hb9]) rfl
    · intro a u hbu hsu hdu
      have c1 := (hbu.cell (p := ⟨S, 1, none⟩) lS4).trans c1; have c2 := (hbu.cell (p := ⟨S, 2, none⟩) lS4).trans c2
      refine Mono.if_want rfl ?_
      have z43 : a.eval (.tmp 43) = .pointer (some ⟨S, 1, none⟩) := Mono.dep_at hdu (i := 7) (d := 43) rfl rfl rfl
      simp [Act.eval] at z43
      exact Mono.ok_val (.int .i64 most) (by simp [execOp, z43, go_sem, c1, c2, hb9]) rfl
    · intro a u hbu hsu hdu
      have c1 := (hbu.cell (p := ⟨S, 1, none⟩) lS4).trans c1; have c2 := (hbu.cell (p := ⟨S, 2, none⟩) lS4).trans c2
      refine Mono.if_want rfl ?_
      have z40 : a.eval (.tmp 40) = .int .i64 m := Mono.dep_at hdu (i := 4) (d := 40) rfl rfl rfl
      simp [Act.eval] at z40
      have z44 : a.eval (.tmp 44) = .int .i64 most := Mono.dep_at hdu (i := 8) (d := 44) rfl rfl rfl
      simp [Act.eval] at z44
      exact Mono.ok_val (.bool false) (by simp [execOp, z40, z44, go_sem, c1, c2, hb9]) rfl
  intro u hu
  simp only [Mono.Fin]
  rintro _ rfl _ rfl _ rfl _ rfl _ rfl _ rfl _ rfl _ rfl _ rfl _ rfl
  have hu5 := hu40.trans (hu.mono hu40.size)
  have hatS5 := hatS.ext hu
  have hatk5 := hatk.ext hu
  have T5 := hu5.size
  clear hu hu4 hu40 hatS hatk c1 c2 c3 PF PA
  simp [Act.put]
  go_upto_region 12 with ((with_reducible refine wpl_storeC rfl 3 (.tmp 57) (.tmp 55) rfl rfl S 3 39 (rowS window most last (.slice pl m c)) (rowS window most now (.slice pl m c)) (.int .i64 now) ?_ ?_ hatS5 ?_ (by kernel_rfl) ?_ ?_ ?_); rfl; rfl; exact (show (3 : Nat) < 4 by decide); rfl; rfl; go_must (intro u6 hatS6 hg; have hgS := grown_trans (grown_below (some S) hu5) hg; have hr6 := reads_grown (HR.out.below hu5) hg (fun h0 q hq => (by cases hq; exact reads_apart hatS5 (noByteS _ _ _ _ _ _) (HR.out.below hu5) h0)); have hatk6 := hatk5.grown hg (by have := hatk5.lt; omega); have T6 := hg.size))
  have lS6 := hatS6.lt
  have T67 : w.heap.size ≤ u6.heap.size := by omega
  have own6 := (HO.out.below hu5).keptLt hg hSB
  obtain ⟨g, GV, hSg, hBg, GR, GK⟩ := own6.gOf hSB (by omega)
  have hkS : u1.heap.size ≠ S := by omega
  have GS : 0 < xs.length → (Value.slice pv n cv).ownBlock ≠ some S := fun h0 => reads_apart hatS6 (noByteS _ _ _ _ _ _) hr6 h0
  refine MonoU.wp_region_U [some 58, some 59, some 60, some 61, some 62, some 63, some 64, some 65, some 66, some 67, some 68, some 69, some 70, some 71, none] [some (.pointer (some ⟨S, 0, none⟩)), some (.pointer (some ⟨S, 0, none⟩)), some (.pointer (some ⟨S, 0, none⟩)), some (.pointer (some ⟨S, 2, none⟩)), some (.slice pl m c), some (.agg #[.string host, .int .u32 fin]), some (.int .i64 now), some (.slice pv n cv), none, none, none, none, some (.pointer (some ⟨S, 0, none⟩)), some (.pointer (some ⟨S, 2, none⟩)), none] (JF S g B u6 window most now (.slice pl m c) ks ⟨host, fin, now, xs⟩) (by kernel_rfl) (by kernel_rfl) (by kernel_rfl) (fun _ => undef) ?_ ?_ ?_
  · refine ⟨But2.drew _ _ _, ?_, fun h => absurd h (by decide), fun _ => own6.below (Frame.ext_drew _), fun h => absurd h (by decide), fun h => absurd h (by decide), fun h => absurd h (by decide), fun h => absurd h (by decide), fun h => absurd h (by decide), fun h => absurd h (by decide)⟩
    rw [if_neg (by decide)]; exact hatS6.drew
  · simp only [MonoU.OpGoals, and_true]
    refine ⟨?_, ?_, ?_, ?_, ?_, ?_, ?_, ?_, ?_, ?_, ?_, ?_, ?_, ?_, ?_⟩
    · intro l us a x hJ hsz hjn hdep hsame hval hfresh
      have zz : a.eval (.tmp 0) = .pointer (some ⟨S, 0, none⟩) := hsame 0 (by decide)
      simp [Act.eval] at zz
      exact wp_val (.pointer (some ⟨S, 0, none⟩)) x (by simp [execOp, zz, go_sem]) ⟨_, rfl, fun c hc => Option.some.inj hc, hJ.pure 0 _ (by decide) (by decide) (by decide) (by decide) (by decide)⟩
    · intro l us a x hJ hsz hjn hdep hsame hval hfresh
      have zz : a.eval (.tmp 0) = .pointer (some ⟨S, 0, none⟩) := hsame 0 (by decide)
      simp [Act.eval] at zz
      exact wp_val (.pointer (some ⟨S, 0, none⟩)) x (by simp [execOp, zz, go_sem]) ⟨_, rfl, fun c hc => Option.some.inj hc, hJ.pure 1 _ (by decide) (by decide) (by decide) (by decide) (by decide)⟩
    · intro l us a x hJ hsz hjn hdep hsame hval hfresh
      have z59 : a.eval (.tmp 59) = .pointer (some ⟨S, 0, none⟩) := hval 1 59 (hdep ⟨1, .data⟩ (by simp) rfl) rfl
      simp [Act.eval] at z59
      exact wp_val (.pointer (some ⟨S, 0, none⟩)) x (by simp [execOp, z59, go_sem]) ⟨_, rfl, fun c hc => Option.some.inj hc, hJ.pure 2 _ (by decide) (by decide) (by decide) (by decide) (by decide)⟩
    · intro l us a x hJ hsz hjn hdep hsame hval hfresh
      have z60 : a.eval (.tmp 60) = .pointer (some ⟨S, 0, none⟩) := hval 2 60 (hdep ⟨2, .data⟩ (by simp) rfl) rfl
      simp [Act.eval] at z60
      exact wp_val (.pointer (some ⟨S, 2, none⟩)) x (by simp [execOp, z60, go_sem]) ⟨_, rfl, fun c hc => Option.some.inj hc, hJ.pure 3 _ (by decide) (by decide) (by decide) (by decide) (by decide)⟩
    · intro l us a x hJ hsz hjn hdep hsame hval hfresh
      have z61 : a.eval (.tmp 61) = .pointer (some ⟨S, 2, none⟩) := hval 3 61 (hdep ⟨3, .data⟩ (by simp) rfl) rfl
      simp [Act.eval] at z61
      have hn := MonoU.getD_false hjn
      have h14 : l.getD 14 false = false := by
        cases hq : l.getD 14 false with
        | false => rfl
        | true => rw [(hJ.ord (hJ.last hq)).1] at hn; cases hn
      have c2 := hJ.row.cell 2
      rw [h14, if_neg (by decide)] at c2
      simp [rowS] at c2
      exact wp_val (.slice pl m c) x (by simp [execOp, z61, go_sem, c2]) ⟨_, rfl, fun c hc => Option.some.inj hc, hJ.pure 4 _ (by decide) (by decide) (by decide) (by decide) (by decide)⟩
    · intro l us a x hJ hsz hjn hdep hsame hval hfresh
      exact wp_loadV 42 (.tmp 11) rfl _ _ (hsame 11 (by decide)) (run_key (hJ.fr.at hatk6 hkS (GK _ _ hatk6))) ⟨_, rfl, fun c hc => Option.some.inj hc, hJ.pure 5 _ (by decide) (by decide) (by decide) (by decide) (by decide)⟩
    · intro l us a x hJ hsz hjn hdep hsame hval hfresh
      have zz : a.eval (.tmp 4) = .int .i64 now := hsame 4 (by decide)
      simp [Act.eval] at zz
      exact wp_val (.int .i64 now) x (by simp [execOp, zz, go_sem]) ⟨_, rfl, fun c hc => Option.some.inj hc, hJ.pure 6 _ (by decide) (by decide) (by decide) (by decide) (by decide)⟩
    · intro l us a x hJ hsz hjn hdep hsame hval hfresh
      have zz : a.eval (.tmp 3) = .slice pv n cv := hsame 3 (by decide)
      simp [Act.eval] at zz
      exact wp_val (.slice pv n cv) x (by simp [execOp, zz, go_sem]) ⟨_, rfl, fun c hc => Option.some.inj hc, hJ.pure 7 _ (by decide) (by decide) (by decide) (by decide) (by decide)⟩
    · intro l us a x hJ hsz hjn hdep hsame hval hfresh
      have z65 : a.eval (.tmp 65) = .slice pv n cv := hval 7 65 (hdep ⟨7, .data⟩ (by simp) rfl) rfl
      simp [Act.eval] at z65
      refine wp_callF 13 _ _ rfl #[.slice pv n cv] (by simp [execOp, z65, go_sem]) ((PC.out x (reads_but2 hr6 hJ.fr (fun h0 => ⟨GS h0, GR _ _ hr6 h0⟩))).mono ?_)
      rintro e y ⟨v1, rfl, hv1, hb1⟩
      exact ⟨_, rfl, _, rfl, (fun c hc => by cases hc), hJ.step8 v1 hb1 (hv1.mono (by have := hJ.fr.size; omega))⟩
    · intro l us a x hJ hsz hjn hdep hsame hval hfresh
      have z63 : a.eval (.tmp 63) = .agg #[.string host, .int .u32 fin] := hval 5 63 (hdep ⟨5, .data⟩ (by simp) rfl) rfl
      have z64 : a.eval (.tmp 64) = .int .i64 now := hval 6 64 (hdep ⟨6, .data⟩ (by simp) rfl) rfl
      have l8 := hdep ⟨8, .data⟩ (by simp) rfl
      have z66 : a.eval (.tmp 66) = us 8 := hval 8 66 l8 rfl
      have hn := MonoU.getD_false hjn
      have h11 : l.getD 11 false = false := by
        cases hq : l.getD 11 false with
        | false => rfl
        | true => rw [hJ.ord10 (hJ.ord hq).2] at hn; cases hn
      have q66 := hJ.cl l8 h11
      obtain ⟨q, s, e66, _⟩ := q66.reads
      rw [e66] at q66 z66
      simp [Act.eval] at z63 z64 z66
      exact wp_buildT 46 _ rfl #[(0, .agg #[.string host, .int .u32 fin]), (1, .int .i64 now), (2, .slice q xs.length s)] (by simp [z63, z64, z66, Act.eval]) (.agg (rowK ⟨host, fin, now, xs⟩ (.slice q xs.length s)).toArray) (by kernel_rfl) ⟨_, rfl, (fun c hc => by cases hc), hJ.step9 q s q66⟩
    · intro l us a x hJ hsz hjn hdep hsame hval hfresh
      have l9 := hdep ⟨9, .data⟩ (by simp) rfl
      have z67 : a.eval (.tmp 67) = us 9 := hval 9 67 l9 rfl
      have hn := MonoU.getD_false hjn
      have h11 : l.getD 11 false = false := by
        cases hq : l.getD 11 false with
        | false => rfl
        | true => rw [(hJ.ord hq).2] at hn; cases hn
      obtain ⟨q, s, e67, r67⟩ := hJ.bu l9 h11
      rw [e67] at z67
      have hbz := (Below.refl x.heap.size x).alloc (Nat.le_refl _) (.cells (rowK ⟨host, fin, now, xs⟩ (.slice q xs.length s)).toArray 46)
      exact Mem.wp_build 37 1 (.tmp 67) rfl _ _ _ z67 (buildK ⟨host, fin, now, xs⟩ _ x) ⟨_, rfl, (fun c hc => by cases hc), hJ.step10 l9 _ q s hbz (At.new x 46 _) (r67.below hbz)⟩
    · intro l us a x hJ hsz hjn hdep hsame hval hfresh
      have l4 := hdep ⟨4, .data⟩ (by simp) rfl
      have l10 := hdep ⟨10, .data⟩ (by simp) rfl
      have z62 : a.eval (.tmp 62) = .slice pl m c := hval 4 62 l4 rfl
      have z68 : a.eval (.tmp 68) = us 10 := hval 10 68 l10 rfl
      have hn := MonoU.getD_false hjn
      have h11 := hn
      have h14 : l.getD 14 false = false := by
        cases hq : l.getD 14 false with
        | false => rfl
        | true => rw [hJ.last hq] at hn; cases hn
      obtain ⟨g0, q, s, e68, hat0, r68⟩ := hJ.sl l10 h11
      rw [e68] at z68
      obtain ⟨p9, c9, y, hrun, ho9, hg9⟩ := (hJ.own h11).append 37 hat0 r68.reads (fun h0 q hq => (r68.lt q hq).1) (by have := hJ.fr.size; omega) HL
      refine wp_appendV (.tmp 62) (.tmp 68) rfl _ _ _ y z62 z68 hrun ⟨_, rfl, (fun c hc => by cases hc), hJ.step11 (by rw [hsz]; decide) h14 l4 l10 p9 c9 hg9 GV hSg ho9⟩
    · intro l us a x hJ hsz hjn hdep hsame hval hfresh
      have z58 : a.eval (.tmp 58) = .pointer (some ⟨S, 0, none⟩) := hval 0 58 (hdep ⟨0, .data⟩ (by simp) rfl) rfl
      simp [Act.eval] at z58
      exact wp_val (.pointer (some ⟨S, 0, none⟩)) x (by simp [execOp, z58, go_sem]) ⟨_, rfl, fun c hc => Option.some.inj hc, hJ.pure 12 _ (by decide) (by decide) (by decide) (by decide) (by decide)⟩
    · intro l us a x hJ hsz hjn hdep hsame hval hfresh
      have z70 : a.eval (.tmp 70) = .pointer (some ⟨S, 0, none⟩) := hval 12 70 (hdep ⟨12, .data⟩ (by simp) rfl) rfl
      simp [Act.eval] at z70
      exact wp_val (.pointer (some ⟨S, 2, none⟩)) x (by simp [execOp, z70, go_sem]) ⟨_, rfl, fun c hc => Option.some.inj hc, hJ.pure 13 _ (by decide) (by decide) (by decide) (by decide) (by decide)⟩
    · intro l us a x hJ hsz hjn hdep hsame hval hfresh
      have l11 := hdep ⟨11, .data⟩ (by simp) rfl
      have z71 : a.eval (.tmp 71) = .pointer (some ⟨S, 2, none⟩) := hval 13 71 (hdep ⟨13, .data⟩ (by simp) rfl) rfl
      have z69 : a.eval (.tmp 69) = us 11 := hval 11 69 l11 rfl
      have h14 := MonoU.getD_false hjn
      have hr := hJ.row
      rw [h14, if_neg (by decide)] at hr
      obtain ⟨p9, c9, e69, _⟩ := hJ.done l11
      refine wp_storeC 37 (.tmp 71) (.tmp 69) rfl rfl S 2 39 _ (rowS window most now (us 11)) (us 11) z71 z69 hr (by show (2 : Nat) < 4; decide) (by kernel_rfl) (by rw [e69]; rfl) rfl ?_
      intro x' hat' hg'
      exact ⟨undef, rfl, (fun c hc => by cases hc), hJ.step14 (by rw [hsz]; decide) l11 _ hg' hSB hat'⟩
  · intro us x hJ
    obtain ⟨p9, c9, e9, ho9⟩ := hJ.done (by decide)
    have hr9 := hJ.row
    rw [if_pos (by decide), e9] at hr9
    have hf9 := hJ.fr
    have el : (ks ++ [(⟨host, fin, now, xs⟩ : K)]).length = ks.length + 1 := by simp
    have hfin : ∀ b, b ≤ S → b ≤ w.heap.size → Below b w x := fun b h1 h2 => (below_grown (hu5.mono h2) hg (by omega) h1).trans (hf9.below (by omega) h1 (by omega))
    have hHas : Has B x S window most now p9 c9 (ks ++ [⟨host, fin, now, xs⟩]) := ⟨by rw [el]; exact hr9, by rw [el]; exact ho9, KOK.out, HW.out⟩
    clear hr9 ho9 hf9 hJ
    simp [Act.put, MonoU.pick]
    go_wp2_with fail
    go_ret
    exact ⟨rfl, ⟨p9, c9, hHas⟩, hfin⟩
end Go.Proofs.Ytmbhiajhlfjknaa.Dup
