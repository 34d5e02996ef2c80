/-
  msg.Put: the long way (the range over the flags, the drawn region, the three numbers).
-/
import Derived.Test.YtcekkppjalipfaaMsg5
namespace Go.Proofs.Ytcekkppjalipfaa.Avp
open Go.RowKit Mem Cells Avps Wire Ops Go.Maps
set_option linter.unusedVariables false
set_option linter.unusedSimpArgs false

set_option maxRecDepth 100000 in
set_option maxHeartbeats 1600000 in
theorem msgPut_5 (m : M) (p : Option Addr) (c : Nat) (X : List Int) (w : World) (hr : ReadsL w (.slice p m.avps.length c) m.avps) (hok : m.ok) (hd : ∀ a ∈ m.avps, a.data.length ≤ 140737488355300) (h1 : m.code ≤ 16777215) (h2 : mixB m = false) (h3 : putOf m.avps = (X, 0)) (h4 : 20 + X.length ≤ 4096) :
    Calls Try.prog 10 #[.agg (rowM m (.slice p m.avps.length c))] w (PutIs w (putM m)) := by
  obtain ⟨⟨o1, o1'⟩, ⟨o2, o2'⟩, ⟨o3, o3'⟩, ⟨o4, o4'⟩, o5⟩ := hok
  have hone : (Value.slice p m.avps.length c).oneCell' = true := rfl
  have hX := (put_ok h3 o5).2.2.1
  have PP := Lib.hid (fun u (h : ReadsL u (.slice p m.avps.length c) m.avps) => by have := avpPut _ m.avps u h (fun a ha => ⟨o5 a ha, hd a ha⟩); rwa [h3] at this)
  have HR := Lib.hid hr
  obtain ⟨L1, hL1⟩ : ∃ L, putted [1] (20 + (X.length : Int)) 3 = L := ⟨_, rfl⟩
  have e1 : L1.length = 4 := by rw [← hL1, putted3_len]; rfl
  have P1 := Lib.hid (fun v u (h : Reads .u8 u v [1]) => by have := put v [1] (20 + (X.length : Int)) 3 u (by omega) h (by simp); rwa [hL1] at this)
  have HL1 := Lib.hid hL1
  have H2 := Lib.hid h2
  have H3 := Lib.hid h3
  have HE1 := Lib.hid e1
  have s1 : IntKind.i64.wrap (20 + (X.length : Int)) = 20 + X.length := IntWalk.i64_in _ (by omega)
  have s2 : IntKind.u64.wrap (20 + (X.length : Int)) = 20 + X.length := by rw [IntKind.wrap_u64]; omega
  have HGS := Lib.hid (gath_start m.req m.prox m.fail m.again)
  clear hr hd h3 o5 hL1 e1 h2
  go_enter Try.func10, Try.ntmps10
  go_wp2_with (first
    | ((with_reducible refine wpl_boxAt rfl 25 (.tmp 0) rfl (rowM m (.slice p m.avps.length c)) ?_ ?_); rfl; go_must (intro w1 hat1 hb1 hs1; have HS1 := Lib.hid hs1; have c4 := hat1.cell 4; simp [rowM] at c4; clear hs1))
    | ((with_reducible refine wpl_loadAt rfl 25 (.tmp 1) rfl w.heap.size 25 (rowM m (.slice p m.avps.length c)) hat1 _ Try.underlying25 rfl (by kernel_rfl) ?_ ?_); rfl)
    | (go_at_call 29; go_must (refine (mixed m _ _ hone).mono ?_; rintro e w2 ⟨rfl, hb2⟩; rw [H2.out]; have hb12 := hb1.trans (hb2.mono hb1.size); have hat2 := hat1.ext hb2; have c8 := hat2.cell 8; simp [rowM] at c8; clear hat1 hb2))
    | (go_at_call 30; go_must (refine (PP.out _ (HR.out.below hb12)).mono ?_; rintro e w3 ⟨v3, rfl, hv3, hb3⟩; have hb13 := hb12.trans (hb3.mono hb12.size); have hat3 := hat2.ext hb3; clear hat2 hb3 c4 c8; obtain ⟨px, cx, rfl, _, _, _, _⟩ := id hv3.reads; have hx3 := hv3.reads; have hg3 := hb13.size; have hrd1 := Reads.one .u8 w3 1 5; have hw3 := (Below.refl w3.heap.size w3).alloc (Nat.le_refl _) (.cells #[.int .u8 1] 5)))
    | (go_at_call 31; have _t := P1; clear _t; go_must (refine (P1.out _ _ hrd1).mono ?_; clear P1; rintro e u4 ⟨v4, rfl, ho4, hbn⟩; have hu := hw3.trans (hbn.mono (by simp)); clear hw3 hrd1 hbn))
    | (go_at_call 32; go_must (refine (flags w.heap.size u4).mono ?_; rintro e u5 ⟨rfl, hm5, hb5⟩; have ho5 := ho4.below hb5; have hu5 := hu.trans (hb5.mono hu.size); clear hu))
    | (at_range; go_must (refine wpList_range_own _ rfl _ 54 rfl 5 _ keyed5 Try.underlying54 (ptrR w.heap.size) u4.heap.size 4 (flagD true true true true) rfl hm5 ?_; intro u6 hrg6 hg6 hs6)))
  go_frame
  have hat5 := hat3.ext hu5
  have hbl6 := (Below.refl u5.heap.size u5).grown hg6 (Nat.le_refl _) (fun q e => by cases e)
  go_loopw [7] (fun u wr => ∃ (left : Lit → Bool) (cnt : Nat), u = .int .u8 (gath m.req m.prox m.fail m.again left) ∧ wr.ranges Try.prog 5 (ptrR w.heap.size) u4.heap.size u5.heap.size 4 (flagD true true true true) left cnt ∧ Below u5.heap.size u5 wr ∧ Hid (∀ kl, left kl = true → Maps.has (flagD true true true true) kl = true)) (fun _ wr => wr.rangeLeft u4.heap.size u5.heap.size)
  case atStart => exact ⟨_, _, by rw [HGS.out], hrg6, hbl6, Lib.hid (fun _ h => h)⟩
  case round =>
    obtain ⟨left, cnt, rfl, hrg, hbl, HSUB⟩ := hrel
    obtain ⟨gv, hgv⟩ : ∃ gv, gath m.req m.prox m.fail m.again left = gv := ⟨_, rfl⟩
    have hgb := gath_bd m.req m.prox m.fail m.again left
    rw [hgv] at hgb
    rw [hgv]
    have HGV := Lib.hid hgv
    clear hgv hrg6 hg6 hs6 hbl6
    go_wp2_with ((at_next; go_must (refine wpList_next_ranges _ rfl _ rfl 5 keyed5 (ptrR w.heap.size) (Value.int .u8) (fun c : Nat => .pointer (some ⟨w.heap.size, c, none⟩)) key_inv (ptrR_inv w.heap.size) u4.heap.size u5.heap.size 4 (flagD true true true true) left cnt rfl hrg ?_ ?_; intro hc0 hl0; have HEND := Lib.hid (gath_end m.req m.prox m.fail m.again left hl0); clear hl0 hc0; rotate_left; intro x c1 kl y u7 cnt1 hkey hlk hR hatk hrg1 hlt hg1 hs1 hen; obtain ⟨rfl, hx⟩ := flag_next hkey (HSUB.out _ hlk) hR hatk; have hbl1 := hbl.grown hg1 hbl.size (fun q e => by cases e; exact Nat.le_refl _); obtain ⟨bb, hcell, hga, hor, hx0, hx1⟩ := flag_round (hat5.ext hbl1) hx hlk; rw [HGV.out] at hga hor; have HSUB1 := Lib.hid (fun z (h : (left z && !z.sameKey (key x)) = true) => HSUB.out z (by simp at h; exact h.1)); have HGA := Lib.hid hga; clear hkey hR hatk hx hga hlk hg1; cases bb)))
    · exact ⟨⟨_, cnt1, by rw [HGA.out]; simp, hrg1, hbl1, HSUB1⟩, by rw [hrg1.left_eq, hrg.left_eq]; exact hlt⟩
    · exact ⟨⟨_, cnt1, by rw [HGA.out]; simp, hrg1, hbl1, HSUB1⟩, by rw [hrg1.left_eq, hrg.left_eq]; exact hlt⟩
    · have hbw := hu5.trans (hbl.mono hu5.size)
      have hatr := hat3.ext hbw
      have how := ho5.below hbl
      have hl1 : L1.length = 4 := HE1.out
      have hgw := hbw.size
      have hgf : Hid (gv = flagM m) := Lib.hid (by rw [← HGV.out, HEND.out]; rfl)
      obtain ⟨L3, hL3⟩ : ∃ L, putted (L1 ++ [gv]) m.code 3 = L := ⟨_, rfl⟩
      refine MonoU.wp_region_U [some 53, some 54, some 55, some 56, some 57, some 58, some 59, some 60, some 6] [some v4, some (.int .u8 gv), none, none, some (.pointer (some ⟨w.heap.size, 4, none⟩)), some (.int .u32 m.code), some (.int .u64 m.code), none, none] (JP wr w3.heap.size v4 L1 gv L3) (by kernel_rfl) (by kernel_rfl) (by kernel_rfl) (fun _ => undef) ?_ ?_ ?_
      · refine ⟨grown_below _ (Frame.ext_drew wr), (fun h => absurd h (by decide)), (fun h => absurd h (by decide)), (fun h => absurd h (by decide)), ?_⟩
        rw [if_neg (by decide), if_neg (by decide)]
        exact ⟨(how.mono (by simp)).below (Frame.ext_drew wr), fun h => absurd h (by decide)⟩
      · simp only [MonoU.OpGoals, and_true]
        refine ⟨?_, ?_, ?_, ?_, ?_, ?_, ?_, ?_, ?_⟩
        · intro l u a x hJ hsz hjn hdep hsame hval hfresh
          have h0 := MonoU.getD_false hjn
          have h8 : l.getD 8 false = false := by
            cases h : l.getD 8 false with
            | false => rfl
            | true => rw [hJ.2.2.2.1 (hJ.2.2.1 (hJ.2.1 h).1)] at h0; cases h0
          refine wp_move (.tmp 6) rfl v4 (hfresh 8 6 h8 rfl) ?_
          exact ⟨v4, rfl, (fun c h => by cases h; rfl), hJ.pure 0 _ (by decide) (by decide) (by decide) (by decide)⟩
        · intro l u a x hJ hsz hjn hdep hsame hval hfresh
          refine wp_move (.tmp 7) rfl (.int .u8 gv) (hsame 7 (by decide)) ?_
          exact ⟨_, rfl, (fun c h => by cases h; rfl), hJ.pure 1 _ (by decide) (by decide) (by decide) (by decide)⟩
        · intro l u a x hJ hsz hjn hdep hsame hval hfresh
          have d1 := hdep ⟨1, .data⟩ (by simp) rfl
          refine Mem.wp_build 26 1 (.tmp 54) rfl (.int .u8 gv) (.slice (some ⟨x.heap.size, 0, none⟩) 1 1) (x.alloc (.cells #[.int .u8 gv] 5)) (hval 1 54 d1 rfl) (by kernel_rfl) ?_
          exact ⟨_, rfl, (fun c h => by cases h), hJ.build⟩
        · intro l u a x hJ hsz hjn hdep hsame hval hfresh
          have d0 := hdep ⟨0, .data⟩ (by simp) rfl
          have d2 := hdep ⟨2, .data⟩ (by simp) rfl
          obtain ⟨r1, r2, r3, r4⟩ := hJ.append (by rw [hsz]; decide) (MonoU.getD_false hjn) d0 d2
          obtain ⟨i0, hi, hz0, hz1, hz2⟩ := info_parts info5
          refine wp_appendO (.tmp 53) (.tmp 55) 26 rfl .u8 w3.heap.size 5 1 i0 (.int .u8 0) Try.underlying26 hi hz0 hz1 hz2 rfl v4 (u 2) L1 [gv] (hval 0 53 d0 rfl) (hval 2 55 d2 rfl) r1 r2 (by simp) (by simp [maxLen]; omega) (by simp; omega) (by omega) ?_
          exact fun v' x' q1 q2 => ⟨v', rfl, (fun c h => by cases h), r4 v' x' q1 q2⟩
        · intro l u a x hJ hsz hjn hdep hsame hval hfresh
          refine wp_field 25 (.tmp 1) 4 rfl (.pointer (some ⟨w.heap.size, 0, none⟩)) (.pointer (some ⟨w.heap.size, 4, none⟩)) (hsame 1 (by decide)) (by kernel_rfl) ?_
          exact ⟨_, rfl, (fun c h => by cases h; rfl), hJ.pure 4 _ (by decide) (by decide) (by decide) (by decide)⟩
        · intro l u a x hJ hsz hjn hdep hsame hval hfresh
          have d4 := hdep ⟨4, .data⟩ (by simp) rfl
          have hne : v4.ownBlock ≠ some w.heap.size := fun e => by have := (how.lt _ e).1; simp at this; omega
          have c4 : x.cell? ⟨w.heap.size, 4, none⟩ = some (.int .u32 m.code) := hJ.1.cell (by have := hatr.cell 4; simpa [rowM] using this) (fun e => hne e.symm)
          have v57 : a.eval (.tmp 57) = .pointer (some ⟨w.heap.size, 4, none⟩) := hval 4 57 d4 rfl
          have z57 := v57
          simp [Act.eval] at z57
          refine wp_val (.int .u32 m.code) x (by simp [execOp, z57, go_sem, c4]) ?_
          exact ⟨_, rfl, (fun c h => by cases h; rfl), hJ.pure 5 _ (by decide) (by decide) (by decide) (by decide)⟩
        · intro l u a x hJ hsz hjn hdep hsame hval hfresh
          have d5 := hdep ⟨5, .data⟩ (by simp) rfl
          have v58 : a.eval (.tmp 58) = .int .u32 m.code := hval 5 58 d5 rfl
          have z58 := v58
          simp [Act.eval] at z58
          refine wp_val (.int .u64 m.code) x (by simp [execOp, z58, go_sem, convert]; rw [IntKind.wrap_u64]; omega) ?_
          exact ⟨_, rfl, (fun c h => by cases h; rfl), hJ.pure 6 _ (by decide) (by decide) (by decide) (by decide)⟩
        · intro l u a x hJ hsz hjn hdep hsame hval hfresh
          have d3 := hdep ⟨3, .data⟩ (by simp) rfl
          have d6 := hdep ⟨6, .data⟩ (by simp) rfl
          have v56 : a.eval (.tmp 56) = u 3 := hval 3 56 d3 rfl
          have z56 := v56
          simp [Act.eval] at z56
          have v59 : a.eval (.tmp 59) = .int .u64 m.code := hval 6 59 d6 rfl
          have z59 := v59
          simp [Act.eval] at z59
          obtain ⟨r1, r2, r3⟩ := hJ.call (by rw [hsz]; decide) (MonoU.getD_false hjn) d3
          have PC := put (u 3) (L1 ++ [gv]) m.code 3 x (by omega) r1.reads (by simp; omega)
          rw [hL3] at PC
          refine wp_callF 31 #[.tmp 56, .tmp 59, .const (.int .i64 3)] _ rfl #[u 3, .int .u64 m.code, .int .i64 3] (by simp [execOp, z56, z59, go_sem]) (PC.mono ?_)
          rintro e x' ⟨v', rfl, q1, q2⟩
          exact ⟨v', rfl, v', rfl, (fun c h => by cases h), r3 v' x' (q1.mono (by omega)) q2⟩
        · intro l u a x hJ hsz hjn hdep hsame hval hfresh
          have d7 := hdep ⟨7, .data⟩ (by simp) rfl
          refine wp_assign (.tmp 60) rfl (u 7) (hval 7 60 d7 rfl) ?_
          exact ⟨_, rfl, (fun c h => by cases h), hJ.done d7⟩
      · intro u x hJ
        have e8 := (hJ.2.1 (by decide)).2
        have hrow := hJ.2.2.2.2
        rw [if_pos (by decide), ← e8] at hrow
        have hux := hbw.grown hJ.1 hbw.size (fun q e => by have := (how.lt q e).1; simp at this; omega)
        simp [Act.put, MonoU.pick]
        generalize u 8 = v6 at hrow
        have hatx := hat3.ext hux
        have c5 := hatx.cell 5
        have c6 := hatx.cell 6
        have c7 := hatx.cell 7
        simp [rowM] at c5 c6 c7
        clear hJ e8 how hrg hbl hatr hat5 ho4 hm5 hb5 ho5
        have hgx := hux.size
        have hxx := hx3.below hux
        have l3 : L3.length = 8 := by rw [← hL3, putted3_len, List.length_append, hl1]; rfl
        obtain ⟨L4, hL4⟩ : ∃ L, putted L3 m.app 4 = L := ⟨_, rfl⟩
        obtain ⟨L5, hL5⟩ : ∃ L, putted L4 m.hop 4 = L := ⟨_, rfl⟩
        obtain ⟨L6, hL6⟩ : ∃ L, putted L5 m.fin 4 = L := ⟨_, rfl⟩
        have l4 : L4.length = 12 := by rw [← hL4, putted4_len, l3]
        have l5 : L5.length = 16 := by rw [← hL5, putted4_len, l4]
        have l6 : L6.length = 20 := by rw [← hL6, putted4_len, l5]
        have Q3 := Lib.hid (fun v u (h : Reads .u8 u v L3) => by have := put v L3 m.app 4 u (by omega) h (by omega); rwa [hL4] at this)
        have Q4 := Lib.hid (fun v u (h : Reads .u8 u v L4) => by have := put v L4 m.hop 4 u (by omega) h (by omega); rwa [hL5] at this)
        have Q5 := Lib.hid (fun v u (h : Reads .u8 u v L5) => by have := put v L5 m.fin 4 u (by omega) h (by omega); rwa [hL6] at this)
        have e : putM m = (L6 ++ X, 0) := by
          unfold putM headM
          rw [if_neg (by omega), if_neg (by rw [H2.out]; decide), H3.out, if_neg (by simp), if_neg (show ¬ 4096 < 20 + X.length by omega), ← hgf.out, ← hL6, ← hL5, ← hL4, ← hL3, ← HL1.out, putted4, putted4, putted4, putted3, putted3]
        have HE := Lib.hid e
        have K3 : L6.length + X.length ≤ maxLen := by simp [maxLen]; omega
        have K4 : (L6.length + X.length) * 1 ≤ 140737488355328 := by omega
        clear hL3 hL4 hL5 hL6 e l3 l4 l5 l6 hx3 hl1
        go_wp2_with fail
        have hatN := At.new x 22 #[.int .u32 m.app, .int .u32 m.hop, .int .u32 m.fin]
        have hbN := (Below.refl x.heap.size x).alloc (Nat.le_refl _) (.cells #[.int .u32 m.app, .int .u32 m.hop, .int .u32 m.fin] 22)
        have hrowN := hrow.below hbN
        have hxN := hxx.below hbN
        have huN := hux.trans (hbN.mono hux.size)
        generalize x.alloc (.cells #[.int .u32 m.app, .int .u32 m.hop, .int .u32 m.fin] 22) = x1 at hatN hbN hrowN hxN huN ⊢
        have hgN := huN.size
        clear hrow hbN hux hxx hatx c5 c6 c7
        go_loopw [69, 6] (fun i v wr => (i = .int .i64 0 ∧ Row .u8 5 w3.heap.size wr v L3 ∧ Below x1.heap.size x1 wr) ∨ (i = .int .i64 1 ∧ Row .u8 5 w3.heap.size wr v L4 ∧ Below x1.heap.size x1 wr) ∨ (i = .int .i64 2 ∧ Row .u8 5 w3.heap.size wr v L5 ∧ Below x1.heap.size x1 wr) ∨ (i = .int .i64 3 ∧ Row .u8 5 w3.heap.size wr v L6 ∧ Below x1.heap.size x1 wr)) (fun i _ _ => 3 - (intOf i).toNat)
        case atStart => exact .inl ⟨rfl, hrowN, Below.refl _ _⟩
        case round =>
          rcases hrel with ⟨rfl, ho, hbl⟩ | ⟨rfl, ho, hbl⟩ | ⟨rfl, ho, hbl⟩ | ⟨rfl, ho, hbl⟩
          · have c0 := (hatN.ext hbl).cell 0
            simp at c0
            have hz := hbl.size
            go_wp2_with (go_at_call 31; have _t := Q3; clear _t; go_must (refine (Q3.out _ _ ho.reads).mono ?_; clear Q3; rintro e z1 ⟨v7, rfl, ho7, hbn⟩; clear ho c0))
            exact ⟨.inr (.inl ⟨rfl, ho7.mono (by omega), hbl.trans (hbn.mono hbl.size)⟩), by decide⟩
          · have c1 := (hatN.ext hbl).cell 1
            simp at c1
            have hz := hbl.size
            go_wp2_with (go_at_call 31; have _t := Q4; clear _t; go_must (refine (Q4.out _ _ ho.reads).mono ?_; clear Q4; rintro e z1 ⟨v7, rfl, ho7, hbn⟩; clear ho c1))
            exact ⟨.inr (.inr (.inl ⟨rfl, ho7.mono (by omega), hbl.trans (hbn.mono hbl.size)⟩)), by decide⟩
          · have c2 := (hatN.ext hbl).cell 2
            simp at c2
            have hz := hbl.size
            go_wp2_with (go_at_call 31; have _t := Q5; clear _t; go_must (refine (Q5.out _ _ ho.reads).mono ?_; clear Q5; rintro e z1 ⟨v7, rfl, ho7, hbn⟩; clear ho c2))
            exact ⟨.inr (.inr (.inr ⟨rfl, ho7.mono (by omega), hbl.trans (hbn.mono hbl.size)⟩)), by decide⟩
          · have hz := hbl.size
            have hxr := hxN.below hbl
            have hzz : w3.heap.size ≤ wr.heap.size := by omega
            have huz := huN.trans (hbl.mono huN.size)
            go_wp2_with (at_builtin; have _t := ho; clear _t; go_must (obtain ⟨i0, hi, hz0, hz1, hz2⟩ := info_parts info5; refine wpl_append rfl (.tmp 78) (.tmp 79) 26 rfl .u8 _ 5 1 i0 (.int .u8 0) Try.underlying26 hi hz0 hz1 hz2 rfl _ _ L6 X rfl rfl ho hxr K3 K4 hzz ?_; clear hi hz0 hz1 hz2; intro v10 u10 ho10 hgn; have hfin := huz.grown hgn huz.size (fun q e => by have := (ho.lt q e).1; omega)))
            go_ret2
            rw [HE.out]
            exact ⟨_, rfl, ho10.mono (by omega), hb13.trans (hfin.mono hb13.size)⟩
end Go.Proofs.Ytcekkppjalipfaa.Avp
