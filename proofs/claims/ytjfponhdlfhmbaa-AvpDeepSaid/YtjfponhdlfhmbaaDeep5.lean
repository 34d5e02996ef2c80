/-
  AvpDeep (7): the walk.
-/
import Derived.Test.YtjfponhdlfhmbaaDeep4
namespace Go.Proofs.Ytjfponhdlfhmbaa.Deep
open Go.RowKit Mem Cells Avps Avp Ops
set_option linter.unusedVariables false
set_option linter.unusedSimpArgs false
attribute [local go_sem] Oper.semAt_some

section
variable {P : Program} {w : World} {ops : Array Oper} {rest : List Oper} {o : Oper} {a : Act} {Q : Exit → Act → World → Prop}
theorem wpl_buildV (hgd : o.guard = none) (S : TypeId) (x : Operand) (ho : o.op = .buildSlice S 1 #[(0, x)]) (v r : Value) (w' : World) (hx : a.eval x = v) (hrun : (Instr.buildSlice S 1 #[(0, v)]).run P w = .ok r w')
    (K : wpList P ops Q rest (a.put o.dst r) w') : wpList P ops Q (o :: rest) a w :=
  wpList_plain hgd fun K' hK => Mem.wp_build S 1 x ho v r w' hx hrun (hK _ _ K)
end
theorem xor_u32 (code : Int) (h0 : 0 ≤ code) (h1 : code ≤ 4294967295) : ∃ c1, bits BinOp.xor IntKind.u32 code 1 = c1 ∧ 0 ≤ c1 ∧ c1 ≤ 4294967295 ∧ c1 ≠ code := by
  obtain ⟨a, rfl⟩ := Int.eq_ofNat_of_zero_le h0
  have ha : a < 4294967296 := by omega
  have hx : a ^^^ 1 < 2 ^ 32 := Nat.xor_lt_two_pow (by omega) (by decide)
  have e1 : (BitVec.ofInt 32 (a : Int)).toNat = a := by
    rw [BitVec.ofInt_natCast, BitVec.toNat_ofNat]; exact Nat.mod_eq_of_lt (by omega)
  have e2 : (BitVec.ofInt 32 (1 : Int)).toNat = 1 := by decide
  have e : bits BinOp.xor IntKind.u32 (a : Int) 1 = ((a ^^^ 1 : Nat) : Int) := by
    show IntKind.u32.wrap ((BitVec.ofInt 32 (a : Int) ^^^ BitVec.ofInt 32 (1 : Int)).toNat : Int) = _
    rw [BitVec.toNat_xor, e1, e2, IntKind.wrap_u32]
    omega
  refine ⟨_, e, by omega, by omega, fun h => ?_⟩
  have h2 : a ^^^ 1 = a := by exact_mod_cast h
  have h3 : a ^^^ (a ^^^ 1) = a ^^^ a := by rw [h2]
  rw [← Nat.xor_assoc, Nat.xor_self, Nat.zero_xor] at h3
  cases h3
theorem build59 (c : Int) (w : World) : (Instr.buildSlice 59 1 #[(0, .int .u32 c)]).run Try.prog w = .ok (.slice (some ⟨w.heap.size, 0, none⟩) 1 1) (w.alloc (.cells #[.int .u32 c] 39)) := by kernel_rfl
theorem info5' : (Try.prog.info? 5).map (fun i => (i.zero, i.size, i.bytes)) = some (some (.int .u8 0), 1, 1) := by kernel_rfl
set_option maxRecDepth 100000 in
set_option maxHeartbeats 16000000 in
theorem deep (n code : Int) (v : Value) (data : List Int) (w : World) (hn0 : 0 ≤ n) (hn1 : n ≤ 255) (hc0 : 0 ≤ code) (hc1 : code ≤ 4294967295) (hr : Reads .u8 w v data) (hwf : ∀ x ∈ data, 0 ≤ x ∧ x ≤ 255) :
    Calls Try.prog 7 #[.int .u8 n, .int .u32 code, v] w fun e w' => e = .returned (.bool true) ∧ Below w.heap.size w w' := by
  obtain ⟨W0, hW0⟩ : ∃ W0, w = W0 := ⟨w, rfl⟩
  rw [hW0] at hr ⊢
  obtain ⟨p, c, rfl, h1, h2, _⟩ := id hr
  obtain ⟨L, hL⟩ : ∃ L, data.length = L := ⟨_, rfl⟩
  rw [hL] at hr h1 ⊢
  have HR := Lib.hid hr
  have HL := Lib.hid hL
  have HWF := Lib.hid hwf
  have hLm : L ≤ 9223372036854775807 := by unfold maxLen at h2; omega
  obtain ⟨k, hk, hk14⟩ : ∃ k : Nat, n.tmod 14 = (k : Int) ∧ k < 14 := by
    obtain ⟨b, rfl⟩ := Int.eq_ofNat_of_zero_le hn0
    exact ⟨b % 14, (Int.ofNat_tmod b 14).symm, Nat.mod_lt _ (by omega)⟩
  clear hW0 hL hr hwf h1 h2
  go_enter Try.func7, Try.ntmps7
  by_cases hL1 : 100 < L
  · have hLz : (100 : Int) < (L : Int) := by omega
    have hLb : decide ((100 : Int) < (L : Int)) = true := decide_eq_true hLz
    have hx := Below.refl W0.heap.size W0
    go_wp2_with (go_at_call 11; go_must (refine (answers _).mono ?_; rintro e u ⟨rfl, hbu⟩; have hx1 := hx.trans (hbu.mono hx.size); clear hx; have hx := hx1; clear hx1 hbu))
    go_ret
    exact ⟨rfl, hx⟩
  · have hLz : ¬ (100 : Int) < (L : Int) := by omega
    have hLb : decide ((100 : Int) < (L : Int)) = false := decide_eq_false hLz
    go_upto_region 4 with (go_at_call 11; go_must (refine (answers _).mono ?_; rintro e w1 ⟨rfl, hb1⟩; have HB1 := Lib.hid hb1; clear hb1))
    have HR1 := Lib.hid (HR.out.below HB1.out)
    obtain ⟨c1, hc1e, hc10, hc11, hc1n⟩ := xor_u32 code hc0 hc1
    have NN := Lib.hid (show OkN code c1 data from ⟨⟨hc0, hc1⟩, ⟨hc10, hc11⟩, hc1n, HWF.out, by rw [HL.out]; omega⟩)
    have hc1f : (c1 == code) = false := by simpa using hc1n
    clear hc1n
    have K1 : ([] : List Int).length + data.length ≤ maxLen := by rw [HL.out]; simp [maxLen]; omega
    have K2 : (([] : List Int).length + data.length) * 1 ≤ 140737488355328 := by rw [HL.out]; simp; omega
    go_upto_region 6 with (first
      | ((with_reducible refine wpl_empty rfl 23 5 rfl .u8 (fun _ => by kernel_rfl) ?_); go_must (intro w2 hown2 hb2 hs2; have HO2 := Lib.hid hown2; have HB2 := Lib.hid hb2; have HS2 := Lib.hid hb2.size; clear hown2 hb2 hs2))
      | (at_builtin; have _t := HO2; clear _t; go_must (obtain ⟨i0, hi, hz0, hz1, hz2⟩ := info_parts info5'; refine wpl_append rfl (.tmp 30) (.tmp 31) 23 rfl .u8 w1.heap.size 5 1 i0 (.int .u8 0) Try.underlying23 hi hz0 hz1 hz2 rfl _ _ [] data rfl rfl HO2.out (HL.out ▸ HR1.out.below HB2.out) K1 K2 HS2.out ?_; clear hi hz0 hz1 hz2; intro v3 w3 hv3 hg3; rw [List.nil_append] at hv3; obtain ⟨p3, c3, hv3e, _⟩ := id hv3.reads; subst hv3e; have HV3 := Lib.hid hv3; have HB3 := Lib.hid (HB2.out.grown hg3 HS2.out (fun q e => (HO2.out.lt q e).1)); clear hv3 hg3 HO2))
      | ((with_reducible refine wpl_allocAt rfl 41 rfl #[.int .u32 0, .int .u32 0, .bool false, .bool false, .slice none 0 0] (by kernel_rfl) ?_); go_must (intro w4 hat4 hb4 hs4; have HC4 := Lib.hid hb4; have HV4 := Lib.hid (HV3.out.reads.below hb4); clear hb4 hs4))
      | ((with_reducible refine wpl_storeR rfl 41 (.tmp 8) (.tmp 33) rfl rfl w3.heap.size 41 #[.int .u32 0, .int .u32 0, .bool false, .bool false, .slice none 0 0] #[.int .u32 c1, .int .u32 0, .bool false, .bool false, .slice p3 data.length c3] ?_ ?_ hat4 (by kernel_rfl) ?_ ?_ ?_); rfl; rfl; rfl; (simp [Value.oneCell']); go_must (intro w5 hat5 hg5; have HA5 := Lib.hid hat5; have HG5 := Lib.hid hg5; have HC5 := Lib.hid (below_grown HC4.out hg5 HC4.out.size (Nat.le_refl _)); clear hat4 hat5 hg5)))
    obtain ⟨h, hh⟩ : ∃ h, w3.heap.size = h := ⟨_, rfl⟩
    have HNB5 := Lib.hid (show ∀ q, (Value.slice p3 data.length c3).ownBlock = some q → q < h from fun q hq => by rw [← hh]; exact (HV3.out.lt q hq).2)
    rw [hh] at HA5 HG5 ⊢
    have HR5 := Lib.hid (reads_grown HV4.out HG5.out (fun h0 q hq e => by cases hq; have := HNB5.out h e; omega))
    have HB5 := Lib.hid (HB1.out.trans ((HB3.out.mono HB1.out.size).trans (HC5.out.mono (Nat.le_trans HB1.out.size HB3.out.size))))
    have HH0 := Lib.hid (show W0.heap.size ≤ h by rw [← hh]; exact Nat.le_trans HB1.out.size HB3.out.size)
    have HNE5 := Lib.hid (show (Value.slice p3 data.length c3).ownBlock ≠ some h from fun e => by have := HNB5.out h e; omega)
    clear hh HB1 HR1 HB2 HS2 HV3 HB3 HC4 HV4 HC5 HG5 K1 K2 HNB5
    go_loopw [9] (fun vi wr => ∃ (i : Nat) (pd : Option Addr) (md : Nat), vi = .int .i64 (i : Int) ∧ Hid (i ≤ k) ∧ Hid (At wr h 41 (row (nestA code c1 data i) (.slice pd (nestA code c1 data i).data.length md)).toArray) ∧ Hid (Reads .u8 wr (.slice pd (nestA code c1 data i).data.length md) (nestA code c1 data i).data) ∧ Hid ((Value.slice pd (nestA code c1 data i).data.length md).ownBlock ≠ some h) ∧ Hid (Below W0.heap.size W0 wr)) (fun vi _ => k - (intOf vi).toNat)
    case atStart => exact ⟨0, p3, c3, rfl, Lib.hid (Nat.zero_le _), HA5, HR5, HNE5, HB5⟩
    case round =>
      clear HA5 HR5 HNE5 HB5
      obtain ⟨i, pd, md, rfl, HI, HAr, HRr, HNr, HBr⟩ := hrel
      obtain ⟨el, hel⟩ : ∃ el, nestA code c1 data i = el := ⟨_, rfl⟩
      have HEL := Lib.hid hel
      have HOK := Lib.hid (show el.ok from hel ▸ nest_ok NN.out i)
      have HLN := Lib.hid (show el.data.length ≤ 4000 by have h1 := nest_len NN.out i; have := HI.out; rw [hel] at h1; omega)
      have HPO := Lib.hid (show putOf [el] = (encAll 0 0 [el], 0) by rw [← hel]; exact nest_put NN.out (by have := HI.out; omega))
      rw [hel] at HAr HRr HNr
      obtain ⟨en, hen⟩ : ∃ en, el.data.length = en := ⟨_, rfl⟩
      rw [hen] at HAr HRr HNr
      have HEN := Lib.hid hen
      have hbld := build22 el (.slice pd en md) wr
      have hal : Below wr.heap.size wr (wr.alloc (.cells (row el (.slice pd en md)).toArray 41)) := (Below.refl _ _).alloc (Nat.le_refl _) _
      have hat6 := At.new wr 41 (row el (.slice pd en md)).toArray
      obtain ⟨w6, hw6⟩ : ∃ w6, wr.alloc (.cells (row el (.slice pd en md)).toArray 41) = w6 := ⟨_, rfl⟩
      rw [hw6] at hbld hal hat6
      have HBLD := Lib.hid hbld
      have HA6 := Lib.hid (HAr.out.ext hal)
      have HB6 := Lib.hid (HBr.out.trans (hal.mono HBr.out.size))
      have HS6 := Lib.hid (show h < w6.heap.size from Nat.lt_of_lt_of_le HAr.out.lt hal.size)
      have HR6 := Lib.hid (HRr.out.below hal)
      have PP := Lib.hid (show Calls Try.prog 8 #[.slice (some ⟨wr.heap.size, 0, none⟩) 1 1] w6 (PutIs w6 (encAll 0 0 [el], 0)) by
        have := avpPut (.slice (some ⟨wr.heap.size, 0, none⟩) 1 1) [el] w6 (readsL_one (by rw [hen]; exact hat6) (by rw [hen]; exact HR6.out)) (fun a ha => by rw [List.mem_singleton] at ha; subst ha; exact ⟨HOK.out, by have := HLN.out; omega⟩)
        rwa [HPO.out] at this)
      clear hel hen hbld hal hat6 hw6
      by_cases hik : i < k
      · have hikz : (i : Int) < (k : Int) := by omega
        have hikb : decide ((i : Int) < (k : Int)) = true := decide_eq_true hikz
        go_upto_region 11 with (first
          | ((with_reducible refine wpl_loadAt rfl 41 (.tmp 8) rfl h 41 (row el (.slice pd en md)).toArray HAr.out _ Try.underlying41 rfl (by kernel_rfl) ?_ ?_); rfl)
          | ((with_reducible refine wpl_buildV rfl 22 (.tmp 40) rfl (.agg (row el (.slice pd en md)).toArray) (.slice (some ⟨wr.heap.size, 0, none⟩) 1 1) w6 ?_ HBLD.out ?_); rfl)
          | (go_at_call 8; go_must (refine PP.out.mono ?_; rintro e w7 ⟨v7, rfl, hv7, hb7⟩; obtain ⟨p7, c7, hv7e, _⟩ := id hv7.reads; subst hv7e; have HV7 := Lib.hid hv7; have HA7 := Lib.hid (HA6.out.ext hb7); have HB7 := Lib.hid (HB6.out.trans (hb7.mono HB6.out.size)); clear hv7 hb7)))
        obtain ⟨xn, hxn⟩ : ∃ xn, (encAll 0 0 [el]).length = xn := ⟨_, rfl⟩
        have HXN := Lib.hid hxn
        rw [hxn] at HV7 ⊢
        clear hxn
        go_wp2_with ((with_reducible refine wpl_storeR rfl 41 (.tmp 8) (.tmp 49) rfl rfl h 41 (row el (.slice pd en md)).toArray #[.int .u32 code, .int .u32 0, .bool false, .bool false, .slice p7 xn c7] ?_ ?_ HA7.out (by kernel_rfl) ?_ ?_ ?_); rfl; rfl; rfl; (simp [Value.oneCell']); go_must (intro w8 hat8 hg8; have HA8 := Lib.hid hat8; have HG8 := Lib.hid hg8; clear hat8 hg8))
        have hnb : (Value.slice p7 xn c7).ownBlock ≠ some h := fun e => by have := (HV7.out.lt h e).1; have := HS6.out; omega
        have hB8 : Below W0.heap.size W0 w8 := below_grown HB7.out HG8.out HB7.out.size HH0.out
        have hR8 : Row .u8 5 w6.heap.size w8 (.slice p7 xn c7) (encAll 0 0 [el]) := HV7.out.kept HG8.out (.inr (by intro e; exact hnb e))
        go_roundw
        case rel =>
          refine ⟨i + 1, p7, c7, by go_num, Lib.hid (by omega), Lib.hid ?_, Lib.hid ?_, Lib.hid ?_, Lib.hid hB8⟩
          · show At w8 h 41 #[.int .u32 code, .int .u32 0, .bool false, .bool false, .slice p7 (encAll 0 0 [nestA code c1 data i]).length c7]
            rw [HEL.out, HXN.out]
            exact HA8.out
          · show Reads .u8 w8 (.slice p7 (encAll 0 0 [nestA code c1 data i]).length c7) (encAll 0 0 [nestA code c1 data i])
            rw [HEL.out, HXN.out]
            exact hR8.reads
          · show (Value.slice p7 (encAll 0 0 [nestA code c1 data i]).length c7).ownBlock ≠ some h
            rw [HEL.out, HXN.out]
            exact hnb
        case measure => simp [intOf]; omega
      · have hikz : ¬ (i : Int) < (k : Int) := by omega
        have hikb : decide ((i : Int) < (k : Int)) = false := decide_eq_false hikz
        have HIK := Lib.hid (show i = k by have := HI.out; omega)
        go_upto_region 13 with (first
          | ((with_reducible refine wpl_loadAt rfl 41 (.tmp 8) rfl h 41 (row el (.slice pd en md)).toArray HAr.out _ Try.underlying41 rfl (by kernel_rfl) ?_ ?_); rfl)
          | ((with_reducible refine wpl_buildV rfl 22 (.tmp 51) rfl (.agg (row el (.slice pd en md)).toArray) (.slice (some ⟨wr.heap.size, 0, none⟩) 1 1) w6 ?_ HBLD.out ?_); rfl)
          | (go_at_call 8; go_must (refine PP.out.mono ?_; rintro e w7 ⟨v7, rfl, hv7, hb7⟩; obtain ⟨p7, c7, hv7e, _⟩ := id hv7.reads; subst hv7e; have HV7 := Lib.hid hv7; have HB7 := Lib.hid (HB6.out.trans (hb7.mono HB6.out.size)); clear hv7 hb7)))
        obtain ⟨xn, hxn⟩ : ∃ xn, (encAll 0 0 [el]).length = xn := ⟨_, rfl⟩
        rw [hxn] at HV7 ⊢
        have hbld9 := build59 code w7
        have hal : Below w7.heap.size w7 (w7.alloc (.cells #[.int .u32 code] 39)) := (Below.refl _ _).alloc (Nat.le_refl _) _
        have hat8 := At.new w7 39 #[.int .u32 code]
        obtain ⟨w8, hw8⟩ : ∃ w8, w7.alloc (.cells #[.int .u32 code] 39) = w8 := ⟨_, rfl⟩
        rw [hw8] at hbld9 hal hat8
        have HBLD9 := Lib.hid hbld9
        have HB8 := Lib.hid (HB7.out.trans (hal.mono HB7.out.size))
        have hr8 : Reads .u8 w8 (.slice p7 xn c7) (encAll 0 0 [nestA code c1 data k]) := by rw [← HIK.out, HEL.out]; exact HV7.out.reads.below hal
        have hc8 := hat8.cell 0
        simp at hc8
        have PO := Lib.hid (open17 NN.out k (by omega) w8 (.slice p7 xn c7) w7.heap.size 0 1 (Nat.le_refl _) hr8 hc8 hat8.lt)
        clear hxn hbld9 hal hat8 hw8 hr8 hc8 HV7 HB7 HA6 HB6 HS6 HR6 PP HBLD HAr HRr HNr HBr HI HIK HEL HOK HLN HPO HEN
        by_cases hk8 : k < 8
        · have HK := Lib.hid hk8
          have PO2 := Lib.hid (show Calls Try.prog 17 #[.slice p7 xn c7, .slice (some ⟨w7.heap.size, 0, none⟩) 1 1] w8 (fun e w' => Below w8.heap.size w8 w' ∧ ∃ lv, e = .returned (.tuple #[lv, .int .i64 0]) ∧ OwnI w8.heap.size w' lv (itsF code c1 data 0 k)) from PO.out.mono (fun e w' ⟨h1, h2⟩ => ⟨h1, h2.elim (fun h => h.2) (fun h => absurd h.1 (by omega))⟩))
          have h8z : ¬ (8 : Int) ≤ (k : Int) := by omega
          have h8b : decide ((8 : Int) ≤ (k : Int)) = false := decide_eq_false h8z
          clear PO
          go_upto_region 14 with (first
            | ((with_reducible refine wpl_buildV rfl 59 (.tmp 58) rfl (.int .u32 code) (.slice (some ⟨w7.heap.size, 0, none⟩) 1 1) w8 ?_ HBLD9.out ?_); rfl)
            | (go_at_call 17; go_must (refine PO2.out.mono ?_; rintro e w9 ⟨hb9, lv, rfl, hi9⟩; have HI9 := Lib.hid hi9; have HB9 := Lib.hid (HB8.out.trans (hb9.mono HB8.out.size)); clear hb9 hi9)))
          obtain ⟨ql, cl, hlv, hl1, hl2, hql⟩ := HI9.out.block (by rw [its_length]; omega)
          rw [its_length] at hlv hl1
          subst hlv
          have HQL := Lib.hid hql
          have HL12 := Lib.hid (And.intro hl1 hl2)
          have hl3 : (k : Int) + 1 ≤ 9223372036854775807 := by omega
          clear hql hl1 hl2
          go_upto_region 19 with fail
          go_loopw [16] (fun vi wr => ∃ i : Nat, vi = .int .i64 (i : Int) ∧ Hid (i ≤ k + 1) ∧ Hid (Below w9.heap.size w9 wr)) (fun vi _ => k + 1 - (intOf vi).toNat)
          case atStart => exact ⟨0, rfl, Lib.hid (Nat.zero_le _), Lib.hid (Below.refl _ _)⟩
          case round =>
            obtain ⟨i, rfl, HI2, HBL⟩ := hrel
            by_cases hik : i ≤ k
            · have hikz : (i : Int) ≤ (k : Int) := by omega
              have hikb : decide ((i : Int) ≤ (k : Int)) = true := decide_eq_true hikz
              have hni : ¬ k + 1 ≤ i := by omega
              obtain ⟨px, mx, hrx, _⟩ := HI9.out.elem i _ (its_get k 0 i hik)
              have q0 := (HBL.out.cell (p := ⟨ql, i * 6, none⟩) HQL.out).trans (hrx 0 _ rfl)
              have q1 := (HBL.out.cell (p := ⟨ql, i * 6 + 1, none⟩) HQL.out).trans (hrx 1 _ rfl)
              rw [nest_code] at q1
              rw [Int.zero_add] at q0
              clear hrx
              by_cases hlt : i < k
              · rw [if_neg (by omega)] at q1
                have hltz : (i : Int) < (k : Int) := by omega
                have hltb : decide ((i : Int) < (k : Int)) = true := decide_eq_true hltz
                go_wp2_with fail
                go_roundw
                case rel => exact ⟨i + 1, by go_num, Lib.hid (by omega), HBL⟩
                case measure => simp [intOf]; omega
              · rw [if_pos (by omega)] at q1
                have hltz : ¬ (i : Int) < (k : Int) := by omega
                have hltb : decide ((i : Int) < (k : Int)) = false := decide_eq_false hltz
                go_wp2_with fail
                go_roundw
                case rel => exact ⟨i + 1, by go_num, Lib.hid (by omega), HBL⟩
                case measure => simp [intOf]; omega
            · have hikz : ¬ (i : Int) ≤ (k : Int) := by omega
              have hikb : decide ((i : Int) ≤ (k : Int)) = false := decide_eq_false hikz
              have hnk : ¬ (k : Int) + 1 ≤ (k : Int) := by omega
              obtain ⟨px, mx, hrx, hrdx⟩ := HI9.out.elem k _ (its_get k 0 k (Nat.le_refl _))
              rw [Nat.sub_self] at hrx hrdx
              have hrdx2 : Reads .u8 w9 (.slice px data.length mx) data := hrdx
              have hrx5 : w9.cell? ⟨ql, k * 6 + 5, none⟩ = some (.slice px data.length mx) := hrx 5 _ rfl
              rw [HL.out] at hrdx2 hrx5
              have Q5 := Lib.hid ((HBL.out.cell (p := ⟨ql, k * 6 + 5, none⟩) HQL.out).trans hrx5)
              have HRX := Lib.hid (hrdx2.below HBL.out)
              have HQW := Lib.hid (Nat.lt_of_lt_of_le HQL.out HBL.out.size)
              have HBF := Lib.hid (HB9.out.trans (HBL.out.mono HB9.out.size))
              have HRF := Lib.hid (HR.out.below HBF.out)
              obtain ⟨st, hst⟩ : ∃ st, strOfNums data = st := ⟨_, rfl⟩
              have HST := Lib.hid hst
              clear hrx hrdx hrdx2 hrx5 hst
              go_upto_region 23 with fail
              refine Mono.wp_region_mono [some 107, some 108, some 109, some 110, some 111, some 112, some 113, some 114, some 115, some 116, some 6] [Mono.isV (.slice (some ⟨ql, 0, none⟩) (k + 1) cl), Mono.isV (.int .i64 (k : Int)), Mono.isV (.pointer (some ⟨ql, k * 6, none⟩)), Mono.isV (.pointer (some ⟨ql, k * 6 + 1, none⟩)), Mono.isV (.pointer (some ⟨ql, k * 6 + 5, none⟩)), Mono.isV (.slice px L mx), Mono.isV (.string st), Mono.isV (.slice p L c), Mono.isV (.string st), Mono.isV (.bool true), Mono.isV (.bool true)] (by kernel_rfl) (by kernel_rfl) ?_ ?_
              · simp only [Mono.OpGoals, and_true]
                refine ⟨?_, ?_, ?_, ?_, ?_, ?_, ?_, ?_, ?_, ?_, ?_⟩
                · intro a u hbu hsu hdu
                  have c5 := (hbu.cell (p := ⟨ql, k * 6 + 5, none⟩) HQW.out).trans Q5.out
                  refine Mono.if_want rfl ?_
                  exact Mono.ok_move (.tmp 14) rfl (hsu 14 (by decide))
                · intro a u hbu hsu hdu
                  have c5 := (hbu.cell (p := ⟨ql, k * 6 + 5, none⟩) HQW.out).trans Q5.out
                  refine Mono.if_want rfl ?_
                  exact Mono.ok_move (.tmp 7) rfl (hsu 7 (by decide))
                · intro a u hbu hsu hdu
                  have c5 := (hbu.cell (p := ⟨ql, k * 6 + 5, none⟩) HQW.out).trans Q5.out
                  refine Mono.if_want rfl ?_
                  have z107 : a.eval (.tmp 107) = .slice (some ⟨ql, 0, none⟩) (k + 1) cl := Mono.dep_at hdu (i := 0) (d := 107) rfl rfl rfl
                  simp [Act.eval] at z107
                  have z108 : a.eval (.tmp 108) = .int .i64 (k : Int) := Mono.dep_at hdu (i := 1) (d := 108) rfl rfl rfl
                  simp [Act.eval] at z108
                  exact Mono.ok_val (.pointer (some ⟨ql, k * 6, none⟩)) (by simp [execOp, z107, z108, go_sem, c5, hnk]) rfl
                · intro a u hbu hsu hdu
                  have c5 := (hbu.cell (p := ⟨ql, k * 6 + 5, none⟩) HQW.out).trans Q5.out
                  refine Mono.if_want rfl ?_
                  have z109 : a.eval (.tmp 109) = .pointer (some ⟨ql, k * 6, none⟩) := Mono.dep_at hdu (i := 2) (d := 109) rfl rfl rfl
                  simp [Act.eval] at z109
                  exact Mono.ok_val (.pointer (some ⟨ql, k * 6 + 1, none⟩)) (by simp [execOp, z109, go_sem, c5, hnk]) rfl
                · intro a u hbu hsu hdu
                  have c5 := (hbu.cell (p := ⟨ql, k * 6 + 5, none⟩) HQW.out).trans Q5.out
                  refine Mono.if_want rfl ?_
                  have z110 : a.eval (.tmp 110) = .pointer (some ⟨ql, k * 6 + 1, none⟩) := Mono.dep_at hdu (i := 3) (d := 110) rfl rfl rfl
                  simp [Act.eval] at z110
                  exact Mono.ok_val (.pointer (some ⟨ql, k * 6 + 5, none⟩)) (by simp [execOp, z110, go_sem, c5, hnk]) rfl
                · intro a u hbu hsu hdu
                  have c5 := (hbu.cell (p := ⟨ql, k * 6 + 5, none⟩) HQW.out).trans Q5.out
                  refine Mono.if_want rfl ?_
                  have z111 : a.eval (.tmp 111) = .pointer (some ⟨ql, k * 6 + 5, none⟩) := Mono.dep_at hdu (i := 4) (d := 111) rfl rfl rfl
                  simp [Act.eval] at z111
                  exact Mono.ok_val (.slice px L mx) (by simp [execOp, z111, go_sem, c5, hnk]) rfl
                · intro a u hbu hsu hdu
                  have c5 := (hbu.cell (p := ⟨ql, k * 6 + 5, none⟩) HQW.out).trans Q5.out
                  refine Mono.if_want rfl ?_
                  have z112 : a.eval (.tmp 112) = .slice px L mx := Mono.dep_at hdu (i := 5) (d := 112) rfl rfl rfl
                  exact Mono.ok_conv 23 9 (.tmp 112) rfl _ (by rw [z112, ← HST.out]; exact string23 (HRX.out.below hbu)) rfl
                · intro a u hbu hsu hdu
                  have c5 := (hbu.cell (p := ⟨ql, k * 6 + 5, none⟩) HQW.out).trans Q5.out
                  refine Mono.if_want rfl ?_
                  exact Mono.ok_move (.tmp 2) rfl (hsu 2 (by decide))
                · intro a u hbu hsu hdu
                  have c5 := (hbu.cell (p := ⟨ql, k * 6 + 5, none⟩) HQW.out).trans Q5.out
                  refine Mono.if_want rfl ?_
                  have z114 : a.eval (.tmp 114) = .slice p L c := Mono.dep_at hdu (i := 7) (d := 114) rfl rfl rfl
                  exact Mono.ok_conv 23 9 (.tmp 114) rfl _ (by rw [z114, ← HST.out]; exact string23 (HRF.out.below hbu)) rfl
                · intro a u hbu hsu hdu
                  have c5 := (hbu.cell (p := ⟨ql, k * 6 + 5, none⟩) HQW.out).trans Q5.out
                  refine Mono.if_want rfl ?_
                  have z113 : a.eval (.tmp 113) = .string st := Mono.dep_at hdu (i := 6) (d := 113) rfl rfl rfl
                  simp [Act.eval] at z113
                  have z115 : a.eval (.tmp 115) = .string st := Mono.dep_at hdu (i := 8) (d := 115) rfl rfl rfl
                  simp [Act.eval] at z115
                  exact Mono.ok_val (.bool true) (by simp [execOp, z113, z115, go_sem, c5, hnk]) rfl
                · intro a u hbu hsu hdu
                  have c5 := (hbu.cell (p := ⟨ql, k * 6 + 5, none⟩) HQW.out).trans Q5.out
                  refine Mono.if_want rfl ?_
                  exact Mono.ok_assign (.tmp 116) rfl (Mono.dep_at hdu (i := 9) (d := 116) rfl rfl rfl)
              intro u hu
              simp only [Mono.Fin]
              rintro _ rfl _ rfl _ rfl _ rfl _ rfl _ rfl _ rfl _ rfl _ rfl _ rfl _ rfl
              have HBZ := Lib.hid (HBF.out.trans (hu.mono HBF.out.size))
              clear hu
              simp [Act.put]
              go_wp2_with fail
              go_ret
              exact ⟨rfl, HBZ.out⟩
        · have HK := Lib.hid hk8
          have PO2 := Lib.hid (show Calls Try.prog 17 #[.slice p7 xn c7, .slice (some ⟨w7.heap.size, 0, none⟩) 1 1] w8 (fun e w' => Below w8.heap.size w8 w' ∧ e = .returned (.tuple #[.slice none 0 0, .int .i64 12])) from PO.out.mono (fun e w' ⟨h1, h2⟩ => ⟨h1, h2.elim (fun h => absurd h.1 (by omega)) (fun h => h.2)⟩))
          have h8z : (8 : Int) ≤ (k : Int) := by omega
          have h8b : decide ((8 : Int) ≤ (k : Int)) = true := decide_eq_true h8z
          clear PO hk8
          go_wp2_with (first
            | ((with_reducible refine wpl_buildV rfl 59 (.tmp 58) rfl (.int .u32 code) (.slice (some ⟨w7.heap.size, 0, none⟩) 1 1) w8 ?_ HBLD9.out ?_); rfl)
            | (go_at_call 17; go_must (refine PO2.out.mono ?_; rintro e w9 ⟨hb9, rfl⟩; have HB9 := Lib.hid (HB8.out.trans (hb9.mono HB8.out.size)); clear hb9)))
          go_ret
          exact ⟨rfl, HB9.out⟩
end Go.Proofs.Ytjfponhdlfhmbaa.Deep
