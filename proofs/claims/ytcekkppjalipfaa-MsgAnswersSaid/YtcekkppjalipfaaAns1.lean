/-
  Contract: msg.Answer. (Printed by gen_ans.py.)
-/
import Derived.Test.YtcekkppjalipfaaAns0
import Derived.Deep.Cut
namespace Go.Proofs.Ytcekkppjalipfaa.Avp
open Go.RowKit Mem Cells Avps Wire Ops
set_option linter.unusedVariables false
set_option linter.unusedSimpArgs false

theorem build1 (A1 : A) (d1 : Value) (w : World) : (Instr.buildSlice 23 1 #[(0, .agg (row A1 d1).toArray)]).run Try.prog w = .ok (.slice (some ⟨w.heap.size, 0, none⟩) 1 1) (w.alloc (.cells (flat [(A1, d1)]).toArray 60)) := by
  kernel_rfl
theorem one_maxL (z : A × Value) : [z].length ≤ maxLen := by simp [maxLen]
theorem apart2 {u : World} {g n c : Nat} {h r : ByteArray} {d1 d2 : Value} (h1 : Reads .u8 u d1 (bs h)) (h2 : Reads .u8 u d2 (bs r)) (k1 : ∀ k, d1.ownBlock = some k → g < k) (k2 : ∀ k, d2.ownBlock = some k → g < k) :
    ∀ y ∈ [(a264 h, d1), (a296 r, d2)], Reads .u8 u y.2 y.1.data ∧ Apart (.slice (some ⟨g, 0, none⟩) n c) y := by
  intro y hy
  simp at hy
  rcases hy with rfl | rfl
  · exact ⟨h1, fun _ q hq e => by cases hq; exact absurd (k1 _ e) (Nat.lt_irrefl _)⟩
  · exact ⟨h2, fun _ q hq e => by cases hq; exact absurd (k2 _ e) (Nat.lt_irrefl _)⟩
theorem atGrownR {u u' : World} {g : Nat} {ty : TypeId} {cs : Array Value} {r : Option Nat} (h : At u g ty cs) (hg : u.grownBy u' r) (hn : ∀ q, r = some q → g ≠ q) : At u' g ty cs := by
  unfold At
  rw [hg.block _ h.lt (fun e => hn _ e.symm rfl)]
  exact h
theorem flat_two (z y : A × Value) (j : Nat) (u : Value) (h : (flat [z, y])[j]? = some u) : (flat [z, y]).toArray[j]? = some u := by simpa using h
set_option maxRecDepth 100000 in
set_option maxHeartbeats 800000 in
theorem ans_0 (m : M) (p : Option Addr) (c : Nat) (code : Int) (h r : ByteArray) (vm : Value) (more : List A) (w : World) (hh : h.size ≤ maxLen) (hr : r.size ≤ maxLen) (hm : ReadsL w vm more) (hn : more.length ≤ 100) (hd : ∀ a ∈ more, a.data.length ≤ 140737488355300) (hc : code < 0) (hi : -9223372036854775808 ≤ code ∧ code ≤ 9223372036854775807) :
    Calls Try.prog 22 #[.agg (rowM m (.slice p m.avps.length c)), .int .i64 code, .string h, .string r, vm] w (OwnIs w { head0 m false with avps := ansL (0) h r ++ more }) := by
  have hone : (Value.slice p m.avps.length c).oneCell' = true := rfl
  have one_max : ([(a268 (0), Value.slice none 4 0)] : List (A × Value)).length ≤ maxLen := by simp [maxLen]
  obtain ⟨n, hnn⟩ : ∃ n : Int, 0 = n := ⟨_, rfl⟩
  have hnb : 0 ≤ n ∧ n ≤ 4294967295 := by omega
  have PP := Lib.hid (fun u => by have := put (.slice none 0 0) [] n 4 u (by omega) Reads.sub0 (by simp); rw [show putted [] n 4 = bytesOf n 4 4 from by rw [putted4]; rfl] at this; exact this)
  have L4 := Lib.hid (show (bytesOf n 4 4).length = 4 by rw [bytesOf_length])
  have PO := Lib.hid (fun u => own2 h r u hh hr)
  have S1 := Lib.hid (rfl : w = w)
  have S2 := Lib.hid (rfl : w = w)
  have s64 : IntKind.u64.wrap n = n := by rw [IntKind.wrap_u64]; omega
  have LA := Lib.hid (show (ansL n h r).length = 3 from rfl)
  have H0 := Lib.hid hnn
  have HM := Lib.hid hm
  have two_max : [a268 n].length + 2 ≤ maxLen := by simp [maxLen]
  rw [hnn]
  rw [hnn] at one_max
  obtain ⟨pm, cm, rfl, q1, q2⟩ := hm.shape
  obtain ⟨len, hlen⟩ : ∃ len, more.length = len := ⟨_, rfl⟩
  have HLEN := Lib.hid hlen
  rw [hlen] at hn HM q1
  rw [hlen]
  have HD := Lib.hid hd
  subst hnn
  clear hm hlen hd hh hr
  go_enter Try.func22, Try.ntmps22
  go_upto_region 5 with (first
    | ((with_reducible refine wpl_boxAt rfl 25 (.tmp 0) rfl (rowM m (.slice p m.avps.length c)) ?_ ?_); rfl; go_must (intro w0 hat0 hu hs; clear hs; have c1 := hat0.cell 1; have c4 := hat0.cell 4; have c5 := hat0.cell 5; have c6 := hat0.cell 6; have c7 := hat0.cell 7; simp [rowM] at c1 c4 c5 c6 c7; have L0 := hat0.lt))
    | ((with_reducible refine wpl_allocAt rfl 25 rfl zeroM (by kernel_rfl) ?_); have _t := S1; clear _t; go_must (intro w1 hatR hb hs; clear hs S1; have hu_ := hu.trans (hb.mono hu.size); have hat0_ := hat0.ext hb; clear hu hat0; have hu := hu_; have hat0 := hat0_; clear hu_ hat0_ hb; clear c1 c4 c5 c6 c7; have c1 := hat0.cell 1; have c4 := hat0.cell 4; have c5 := hat0.cell 5; have c6 := hat0.cell 6; have c7 := hat0.cell 7; simp [rowM] at c1 c4 c5 c6 c7; have LR := hatR.lt))
    | ((with_reducible refine wpl_allocAt rfl 25 rfl zeroM (by kernel_rfl) ?_); have _t := S2; clear _t; go_must (intro w2 hatG hb hs; clear hs S2 c1 c4 c5 c6 c7; have Tw2_0 := hu.size; have Tw2_1 := hat0.lt; have Tw2_2 := hatR.lt; have hu_ := hu.trans (hb.mono hu.size); have hat0_ := hat0.ext hb; have hatR_ := hatR.ext hb; clear hu hat0 hatR; have hu := hu_; have hat0 := hat0_; have hatR := hatR_; clear hu_ hat0_ hatR_ hb; clear hat0; have LG := hatG.lt))
    | ((with_reducible refine wpl_storeR rfl 25 (.tmp 11) (.tmp 30) rfl rfl w1.heap.size 25 zeroM (rowM (head0 m false) (.slice none 0 0)) ?_ ?_ hatG (by kernel_rfl) ?_ ?_ ?_); rfl; rfl; rfl; (simp [rowM, Value.oneCell']); go_must (intro w3 hatG' hg; have hu_ := below_grown hu hg hu.size (by omega); have hatR_ := hatR.grown hg (by omega); clear hu hatR; have hu := hu_; have hatR := hatR_; clear hu_ hatR_ hg; clear hatG; have hatG := hatG'; clear hatG'; have LG3 := hatG.lt; have LR3 := hatR.lt; have TB := Nat.le_refl w3.heap.size))
    | (go_at_call 31; go_must (refine (PP.out w3).mono ?_; clear PP; rintro e u4 ⟨v4, rfl, hrow, hb⟩; have hbB := hb; have hd4 := hrow.reads; obtain ⟨p4, c4, rfl, _⟩ := id hd4; have B4 := Lib.hid (fun k (h : (Value.slice p4 (bytesOf 0 4 4).length c4).ownBlock = some k) => (hrow.lt k h)); clear hrow; have hu_ := hu.trans (hb.mono hu.size); have hatR_ := hatR.ext hb; have hatG_ := hatG.ext hb; clear hu hatR hatG; have hu := hu_; have hatR := hatR_; have hatG := hatG_; clear hu_ hatR_ hatG_ hb; rw [L4.out] at hd4 B4 ⊢))
    | ((with_reducible refine wpl_buildS rfl 23 1 #[(0, .tmp 40)] rfl #[(0, .agg (row (a268 0) (.slice p4 4 c4)).toArray)] ?_ 60 (flat [(a268 0, .slice p4 4 c4)]).toArray (build1 _ _) ?_); (simp [Act.eval, row, a268]); go_must (intro u5 hat5 hb hs; clear hs; have T5 := hbB.size; have hu_ := hu.trans (hb.mono hu.size); have hatR_ := hatR.ext hb; have hatG_ := hatG.ext hb; have hbB_ := hbB.trans (hb.mono hbB.size); have hd4_ := hd4.below hb; clear hu hatR hatG hbB hd4; have hu := hu_; have hatR := hatR_; have hatG := hatG_; have hbB := hbB_; have hd4 := hd4_; clear hu_ hatR_ hatG_ hbB_ hd4_ hb; have ho5 := ownL_of_at (B := w3.heap.size) [(a268 0, .slice p4 4 c4)] hat5 T5 (one_maxL _) (fun z hz => by rw [List.mem_singleton] at hz; subst hz; exact ⟨hd4, fun _ e => by have := (B4.out _ e).2; omega⟩); clear hat5 hd4; have ho5' : OwnL 60 w3.heap.size u5 (.slice (some ⟨u4.heap.size, 0, none⟩) 1 1) [a268 0] := ho5; clear ho5; have ho5 := ho5'; clear ho5'; have L5 := (ho5.lt u4.heap.size rfl).2))
    | (go_at_call 40; go_must (refine (PO.out u5).mono ?_; clear PO; rintro e u6 ⟨g6, d1, d2, rfl, hat6, hd1, hd2, hk1, hk2, hb⟩; have hu_ := hu.trans (hb.mono hu.size); have hatR_ := hatR.ext hb; have hatG_ := hatG.ext hb; have hbB_ := hbB.trans (hb.mono hbB.size); have ho5_ := ho5.below hb; clear hu hatR hatG hbB ho5; have hu := hu_; have hatR := hatR_; have hatG := hatG_; have hbB := hbB_; have ho5 := ho5_; clear hu_ hatR_ hatG_ hbB_ ho5_ hb; have T6 := hbB.size))
    | (at_builtin; have _t := ho5; clear _t; go_must (obtain ⟨i60, z60, i1, i2, i3, i4, i5⟩ := info41; refine wpl_appendL rfl (.tmp 41) (.tmp 44) 23 rfl w3.heap.size 60 40 i60 z60 Try.underlying23 i1 i2 i3 i4 i5 _ ⟨g6, 0, none⟩ 2 [a268 0] [(a264 h, d1), (a296 r, d2)] rfl rfl ho5 (fun j u hj => (by rw [add_none, Nat.zero_add, hat6.cell j]; exact flat_two _ _ _ _ hj)) (apart2 hd1 hd2 (fun k e => (by have := hk1 k e; omega)) (fun k e => (by have := hk2 k e; omega))) (by simp [maxLen]) (by simp) T6 ?_; clear i1 i2 i3 i4 i5; intro v7 u7 ho7 hg0; have hg : World.grownBy _ _ (some u4.heap.size) := hg0; clear hg0; have T45 := T5; have hu_ := below_grown hu hg hu.size (by omega); have hatR_ := hatR.grown hg (by omega); have hatG_ := hatG.grown hg (by omega); have hbB_ := below_grown hbB hg hbB.size (by omega); clear hu hatR hatG hbB; have hu := hu_; have hatR := hatR_; have hatG := hatG_; have hbB := hbB_; clear hu_ hatR_ hatG_ hbB_ hg; clear ho5 hat6 hd1 hd2 hk1 hk2; have ho7' : OwnL 60 w3.heap.size u7 v7 (ansL 0 h r) := ho7; clear ho7; obtain ⟨p7, c7, rfl, _, _⟩ := ho7'.reads.shape; rw [LA.out] at ho7' ⊢))
    | ((with_reducible refine wpl_storeC rfl 23 (.tmp 46) (.tmp 45) rfl rfl w1.heap.size 8 25 (rowM (head0 m false) (.slice none 0 0)) (rowM (head0 m false) (.slice p7 3 c7)) (.slice p7 3 c7) ?_ ?_ hatG ?_ (by kernel_rfl) ?_ ?_ ?_); rfl; rfl; exact (show (8 : Nat) < 9 by decide); rfl; rfl; go_must (intro u8 hatG8 hg; have ho8 := ho7'.kept hg LG3 hatG (noByteM _ _ _ _); have hu8 := below_grown hu hg hu.size (by omega); have T8 := hg.size; have T7 := hbB.size; have hatR8 := hatR.grown hg (by omega); clear hu hbB hatR hatG ho7' hg; have hu := hu8; have hatR := hatR8; have hatG := hatG8; clear hu8 hatR8 hatG8)))
  go_wp2_with fail
  have TB8 : w3.heap.size ≤ u8.heap.size := by omega
  obtain ⟨l3, hl3⟩ : ∃ l3, ansL 0 h r = l3 := ⟨_, rfl⟩
  have HL3 := Lib.hid hl3
  rw [hl3] at ho8 LA
  clear hl3
  have LG := hatG.lt
  go_loopw [49] (fun i wr => ∃ (k : Nat) (q : Option Addr) (cq : Nat), i = .int .i64 k ∧ k ≤ len ∧ Below w.heap.size w wr ∧ w3.heap.size ≤ wr.heap.size ∧ At wr w0.heap.size 25 zeroM ∧ At wr w1.heap.size 25 (rowM (head0 m false) (.slice q (3 + k) cq)) ∧ OwnL 60 w3.heap.size wr (.slice q (3 + k) cq) (l3 ++ more.take k)) (fun i _ => len - (intOf i).toNat)
  case atStart => exact ⟨0, p7, c7, rfl, by omega, hu, TB8, hatR, hatG, by rw [List.take_zero, List.append_nil]; exact ho8⟩
  case round =>
    clear hu hatR hatG ho8
    obtain ⟨k, q, cq, rfl, hk, hu, TB, hatR, hatG, hown⟩ := hrel
    by_cases hlt : k < len
    · have hel := (HM.out.below hu).elem k (by rw [HLEN.out]; exact hlt)
      rw [HLEN.out] at hel
      obtain ⟨x, hx1, hx2, b, off, c', pd, nd, hv, _, _, hltb, hra, hrd⟩ := hel
      cases hv
      have HX := Lib.hid hx1
      have HRA := Lib.hid hra
      have hdx := HD.out x hx2
      have hw := Below.refl wr.heap.size wr
      obtain ⟨acc, hacc⟩ : ∃ acc, l3 ++ more.take k = acc := ⟨_, rfl⟩
      rw [hacc] at hown
      have hal : acc.length = 3 + k := by rw [← hacc, List.length_append, LA.out, List.length_take, HLEN.out]; omega
      have HA := Lib.hid hacc
      have HAL := Lib.hid hal
      have K4 : acc.length + 1 ≤ maxLen := by simp [maxLen]; omega
      have K5 : (acc.length + 1) * 40 ≤ 140737488355328 := by omega
      have LGr := hatG.lt
      have LRr := hatR.lt
      have NK : 3 + k + 1 = 3 + (k + 1) := by omega
      clear hacc hx1 hra hal
      go_wp2_with (first
        | ((with_reducible refine wpl_loadE rfl 60 (.tmp 51) rfl b (off + k * 5) ?_ (row x (.slice pd x.data.length nd)).toArray _ HRA.out Try.underlying60 rfl (by kernel_rfl) ?_); rfl; clear HRA)
        | ((with_reducible refine wpl_allocAt rfl 60 rfl zeroRow (by kernel_rfl) ?_); go_must (intro x1 hata hb hs; clear hs; have hw_ := hw.trans (hb.mono hw.size); clear hw; have hw := hw_; clear hw_ hb; have La := hata.lt))
        | ((with_reducible refine wpl_storeR rfl 60 (.tmp 13) (.tmp 52) rfl rfl wr.heap.size 60 zeroRow (row x (.slice pd x.data.length nd)).toArray ?_ ?_ hata (by kernel_rfl) ?_ ?_ ?_); rfl; rfl; rfl; (simp [row, Value.oneCell']); go_must (intro x2 hata2 hg; have hw_ := below_grown hw hg hw.size (Nat.le_refl _); clear hw; have hw := hw_; clear hw_ hg; clear hata; have hata := hata2; clear hata2; have La2 := hata.lt; have c4 := hata.cell 4; simp [row] at c4))
        | (go_at_call 37; go_must (refine (clone _ _ _ (hrd.below hw) (by omega)).mono ?_; rintro e x3 ⟨v9, rfl, hv9, hb⟩; have T3 := hw.size; have hw_ := hw.trans (hb.mono hw.size); have hata_ := hata.ext hb; clear hw hata; have hw := hw_; have hata := hata_; clear hw_ hata_ hb; clear c4; obtain ⟨p9, c9, rfl, _⟩ := hv9.reads))
        | ((with_reducible refine wpl_storeC rfl 26 (.tmp 56) (.tmp 55) rfl rfl wr.heap.size 4 60 (row x (.slice pd x.data.length nd)).toArray (row x (.slice p9 x.data.length c9)).toArray (.slice p9 x.data.length c9) ?_ ?_ hata ?_ (by kernel_rfl) ?_ ?_ ?_); rfl; rfl; exact (show (4 : Nat) < 5 by decide); rfl; rfl; go_must (intro x4 hata4 hg; have hd9 := reads_grown hv9.reads hg (fun h0 z hz e => (by obtain ⟨g', e1, _, e2, _⟩ := hv9.form h0; rw [e1] at e; have e3 : g' = z := Option.some.inj e; have e4 : wr.heap.size = z := Option.some.inj hz; omega)); have hap : Apart (.slice q (3 + k) cq) (x, .slice p9 x.data.length c9) := (fun h0 z hz e => (by obtain ⟨g', e1, _, e2, _⟩ := hv9.form h0; have h1 := (hown.lt z hz).2; rw [show (x, Value.slice p9 x.data.length c9).2 = .slice p9 x.data.length c9 from rfl, e1] at e; have e3 : g' = z := Option.some.inj e; omega)); have hw_ := below_grown hw hg hw.size (Nat.le_refl _); clear hw; have hw := hw_; clear hw_ hg; clear hata hv9; have c8 := (hatG.ext hw).cell 8; simp [rowM] at c8))
        | ((with_reducible refine wpl_loadAt rfl 60 (.tmp 13) rfl wr.heap.size 60 (row x (.slice p9 x.data.length c9)).toArray hata4 _ Try.underlying60 rfl (by kernel_rfl) ?_ ?_); rfl)
        | (obtain ⟨i60, z60, i1, i2, i3, i4, i5⟩ := info41; (with_reducible refine wpl_push 23 60 40 60 (.tmp 59) (.tmp 58) rfl rfl rfl rfl rfl x (.slice p9 x.data.length c9) ?_ (build22 _ _) w3.heap.size i60 z60 Try.underlying23 i1 i2 i3 i4 i5 (.slice q (3 + k) cq) acc ?_ ?_ (hown.below hw) hd9 hap K4 K5 ?_ ?_); rfl; exact fun _ => rfl; exact fun _ => rfl; (have := hw.size; omega); go_must (clear i1 i2 i3 i4 i5 c8; intro v6 x6 hv6 hg; have hux := hu.trans (hw.mono hu.size); have hlo : ∀ z, (Value.slice q (3 + k) cq).ownBlock = some z → w3.heap.size ≤ z := (fun z e => (hown.lt z e).1); have hux6 := hux.grown hg hux.size (fun z e => (by have := hlo z e; omega)); have hatG6 := atGrownR (hatG.ext hw) hg (fun z e => (by have := hlo z e; omega)); have hatR6 := atGrownR (hatR.ext hw) hg (fun z e => (by have := hlo z e; omega)); have T6 := hg.size; have T5 := hw.size; obtain ⟨p6, c6, rfl, _, _⟩ := hv6.reads.shape; rw [List.length_append, HAL.out, show [x].length = 1 from rfl, NK] at hv6 ⊢; clear hg hlo hux))
        | ((with_reducible refine wpl_storeC rfl 23 (.tmp 62) (.tmp 61) rfl rfl w1.heap.size 8 25 (rowM (head0 m false) (.slice q (3 + k) cq)) (rowM (head0 m false) (.slice p6 (3 + (k + 1)) c6)) (.slice p6 (3 + (k + 1)) c6) ?_ ?_ hatG6 ?_ (by kernel_rfl) ?_ ?_ ?_); rfl; rfl; exact (show (8 : Nat) < 9 by decide); rfl; rfl; go_must (intro x7 hatG7 hg; have hown7 := hv6.kept hg LG3 hatG6 (noByteM _ _ _ _); have hu7 := below_grown hux6 hg hux6.size (by omega); have hatR7 := hatR6.grown hg (by omega); have T7 := hg.size)))
      go_roundw
      case rel =>
        have hk2 : k < more.length := by rw [HLEN.out]; exact hlt
        have hnew : l3 ++ more.take (k + 1) = acc ++ [x] := by
          rw [List.take_succ_eq_append_getElem hk2, ← List.append_assoc, HA.out]
          have := HX.out
          rw [List.getElem?_eq_getElem hk2] at this
          rw [Option.some.inj this]
        exact ⟨k + 1, _, _, by go_num, by omega, hu7, by omega, hatR7, hatG7, by rw [hnew]; exact hown7⟩
      case measure => simp [intOf]; omega
    · obtain rfl : k = len := by omega
      have htk : more.take k = more := List.take_of_length_le (by rw [HLEN.out]; omega)
      rw [htk] at hown
      clear htk
      have LRr := hatR.lt
      go_wp2_with (first
        | ((with_reducible refine wpl_loadAt rfl 25 (.tmp 11) rfl w1.heap.size 25 (rowM (head0 m false) (.slice q (3 + k) cq)) hatG _ Try.underlying25 rfl (by kernel_rfl) ?_ ?_); rfl)
        | ((with_reducible refine wpl_storeR rfl 25 (.tmp 10) (.tmp 64) rfl rfl w0.heap.size 25 zeroM (rowM (head0 m false) (.slice q (3 + k) cq)) ?_ ?_ hatR (by kernel_rfl) ?_ ?_ ?_); rfl; rfl; rfl; (simp [rowM, Value.oneCell']); go_must (intro xz hatz hg; have hownz := hown.kept hg (by omega) hatR noByteZ; have huz := below_grown hu hg hu.size (by omega))))
      exact end_cell (fn := Try.f22) (p := 10) (ty := 25) (by kernel_rfl) rfl hatz Try.underlying25 rfl (by kernel_rfl) rfl ⟨_, _, _, rfl, (show OwnL 60 w.heap.size xz _ (ansL 0 h r ++ more) by rw [HL3.out]; exact hownz.mono (by omega)), huz⟩
set_option maxRecDepth 100000 in
set_option maxHeartbeats 800000 in
theorem ans_1 (m : M) (p : Option Addr) (c : Nat) (code : Int) (h r : ByteArray) (vm : Value) (more : List A) (w : World) (hh : h.size ≤ maxLen) (hr : r.size ≤ maxLen) (hm : ReadsL w vm more) (hn : more.length ≤ 100) (hd : ∀ a ∈ more, a.data.length ≤ 140737488355300) (hc : 0 ≤ code ∧ code < 3000) (hi : -9223372036854775808 ≤ code ∧ code ≤ 9223372036854775807) :
    Calls Try.prog 22 #[.agg (rowM m (.slice p m.avps.length c)), .int .i64 code, .string h, .string r, vm] w (OwnIs w { head0 m false with avps := ansL (code) h r ++ more }) := by
  have hone : (Value.slice p m.avps.length c).oneCell' = true := rfl
  have one_max : ([(a268 (code), Value.slice none 4 0)] : List (A × Value)).length ≤ maxLen := by simp [maxLen]
  obtain ⟨n, hnn⟩ : ∃ n : Int, code = n := ⟨_, rfl⟩
  have hnb : 0 ≤ n ∧ n ≤ 4294967295 := by omega
  have PP := Lib.hid (fun u => by have := put (.slice none 0 0) [] n 4 u (by omega) Reads.sub0 (by simp); rw [show putted [] n 4 = bytesOf n 4 4 from by rw [putted4]; rfl] at this; exact this)
  have L4 := Lib.hid (show (bytesOf n 4 4).length = 4 by rw [bytesOf_length])
  have PO := Lib.hid (fun u => own2 h r u hh hr)
  have S1 := Lib.hid (rfl : w = w)
  have S2 := Lib.hid (rfl : w = w)
  have s64 : IntKind.u64.wrap n = n := by rw [IntKind.wrap_u64]; omega
  have LA := Lib.hid (show (ansL n h r).length = 3 from rfl)
  have H0 := Lib.hid hnn
  have HM := Lib.hid hm
  have two_max : [a268 n].length + 2 ≤ maxLen := by simp [maxLen]
  rw [hnn]
  rw [hnn] at one_max
  obtain ⟨pm, cm, rfl, q1, q2⟩ := hm.shape
  obtain ⟨len, hlen⟩ : ∃ len, more.length = len := ⟨_, rfl⟩
  have HLEN := Lib.hid hlen
  rw [hlen] at hn HM q1
  rw [hlen]
  have HD := Lib.hid hd
  subst hnn
  clear hm hlen hd hh hr
  go_enter Try.func22, Try.ntmps22
  go_upto_region 5 with (first
    | ((with_reducible refine wpl_boxAt rfl 25 (.tmp 0) rfl (rowM m (.slice p m.avps.length c)) ?_ ?_); rfl; go_must (intro w0 hat0 hu hs; clear hs; have c1 := hat0.cell 1; have c4 := hat0.cell 4; have c5 := hat0.cell 5; have c6 := hat0.cell 6; have c7 := hat0.cell 7; simp [rowM] at c1 c4 c5 c6 c7; have L0 := hat0.lt))
    | ((with_reducible refine wpl_allocAt rfl 25 rfl zeroM (by kernel_rfl) ?_); have _t := S1; clear _t; go_must (intro w1 hatR hb hs; clear hs S1; have hu_ := hu.trans (hb.mono hu.size); have hat0_ := hat0.ext hb; clear hu hat0; have hu := hu_; have hat0 := hat0_; clear hu_ hat0_ hb; clear c1 c4 c5 c6 c7; have c1 := hat0.cell 1; have c4 := hat0.cell 4; have c5 := hat0.cell 5; have c6 := hat0.cell 6; have c7 := hat0.cell 7; simp [rowM] at c1 c4 c5 c6 c7; have LR := hatR.lt))
    | ((with_reducible refine wpl_allocAt rfl 25 rfl zeroM (by kernel_rfl) ?_); have _t := S2; clear _t; go_must (intro w2 hatG hb hs; clear hs S2 c1 c4 c5 c6 c7; have Tw2_0 := hu.size; have Tw2_1 := hat0.lt; have Tw2_2 := hatR.lt; have hu_ := hu.trans (hb.mono hu.size); have hat0_ := hat0.ext hb; have hatR_ := hatR.ext hb; clear hu hat0 hatR; have hu := hu_; have hat0 := hat0_; have hatR := hatR_; clear hu_ hat0_ hatR_ hb; clear hat0; have LG := hatG.lt))
    | ((with_reducible refine wpl_storeR rfl 25 (.tmp 11) (.tmp 30) rfl rfl w1.heap.size 25 zeroM (rowM (head0 m false) (.slice none 0 0)) ?_ ?_ hatG (by kernel_rfl) ?_ ?_ ?_); rfl; rfl; rfl; (simp [rowM, Value.oneCell']); go_must (intro w3 hatG' hg; have hu_ := below_grown hu hg hu.size (by omega); have hatR_ := hatR.grown hg (by omega); clear hu hatR; have hu := hu_; have hatR := hatR_; clear hu_ hatR_ hg; clear hatG; have hatG := hatG'; clear hatG'; have LG3 := hatG.lt; have LR3 := hatR.lt; have TB := Nat.le_refl w3.heap.size))
    | (go_at_call 31; go_must (refine (PP.out w3).mono ?_; clear PP; rintro e u4 ⟨v4, rfl, hrow, hb⟩; have hbB := hb; have hd4 := hrow.reads; obtain ⟨p4, c4, rfl, _⟩ := id hd4; have B4 := Lib.hid (fun k (h : (Value.slice p4 (bytesOf code 4 4).length c4).ownBlock = some k) => (hrow.lt k h)); clear hrow; have hu_ := hu.trans (hb.mono hu.size); have hatR_ := hatR.ext hb; have hatG_ := hatG.ext hb; clear hu hatR hatG; have hu := hu_; have hatR := hatR_; have hatG := hatG_; clear hu_ hatR_ hatG_ hb; rw [L4.out] at hd4 B4 ⊢))
    | ((with_reducible refine wpl_buildS rfl 23 1 #[(0, .tmp 40)] rfl #[(0, .agg (row (a268 code) (.slice p4 4 c4)).toArray)] ?_ 60 (flat [(a268 code, .slice p4 4 c4)]).toArray (build1 _ _) ?_); (simp [Act.eval, row, a268]); go_must (intro u5 hat5 hb hs; clear hs; have T5 := hbB.size; have hu_ := hu.trans (hb.mono hu.size); have hatR_ := hatR.ext hb; have hatG_ := hatG.ext hb; have hbB_ := hbB.trans (hb.mono hbB.size); have hd4_ := hd4.below hb; clear hu hatR hatG hbB hd4; have hu := hu_; have hatR := hatR_; have hatG := hatG_; have hbB := hbB_; have hd4 := hd4_; clear hu_ hatR_ hatG_ hbB_ hd4_ hb; have ho5 := ownL_of_at (B := w3.heap.size) [(a268 code, .slice p4 4 c4)] hat5 T5 (one_maxL _) (fun z hz => by rw [List.mem_singleton] at hz; subst hz; exact ⟨hd4, fun _ e => by have := (B4.out _ e).2; omega⟩); clear hat5 hd4; have ho5' : OwnL 60 w3.heap.size u5 (.slice (some ⟨u4.heap.size, 0, none⟩) 1 1) [a268 code] := ho5; clear ho5; have ho5 := ho5'; clear ho5'; have L5 := (ho5.lt u4.heap.size rfl).2))
    | (go_at_call 40; go_must (refine (PO.out u5).mono ?_; clear PO; rintro e u6 ⟨g6, d1, d2, rfl, hat6, hd1, hd2, hk1, hk2, hb⟩; have hu_ := hu.trans (hb.mono hu.size); have hatR_ := hatR.ext hb; have hatG_ := hatG.ext hb; have hbB_ := hbB.trans (hb.mono hbB.size); have ho5_ := ho5.below hb; clear hu hatR hatG hbB ho5; have hu := hu_; have hatR := hatR_; have hatG := hatG_; have hbB := hbB_; have ho5 := ho5_; clear hu_ hatR_ hatG_ hbB_ ho5_ hb; have T6 := hbB.size))
    | (at_builtin; have _t := ho5; clear _t; go_must (obtain ⟨i60, z60, i1, i2, i3, i4, i5⟩ := info41; refine wpl_appendL rfl (.tmp 41) (.tmp 44) 23 rfl w3.heap.size 60 40 i60 z60 Try.underlying23 i1 i2 i3 i4 i5 _ ⟨g6, 0, none⟩ 2 [a268 code] [(a264 h, d1), (a296 r, d2)] rfl rfl ho5 (fun j u hj => (by rw [add_none, Nat.zero_add, hat6.cell j]; exact flat_two _ _ _ _ hj)) (apart2 hd1 hd2 (fun k e => (by have := hk1 k e; omega)) (fun k e => (by have := hk2 k e; omega))) (by simp [maxLen]) (by simp) T6 ?_; clear i1 i2 i3 i4 i5; intro v7 u7 ho7 hg0; have hg : World.grownBy _ _ (some u4.heap.size) := hg0; clear hg0; have T45 := T5; have hu_ := below_grown hu hg hu.size (by omega); have hatR_ := hatR.grown hg (by omega); have hatG_ := hatG.grown hg (by omega); have hbB_ := below_grown hbB hg hbB.size (by omega); clear hu hatR hatG hbB; have hu := hu_; have hatR := hatR_; have hatG := hatG_; have hbB := hbB_; clear hu_ hatR_ hatG_ hbB_ hg; clear ho5 hat6 hd1 hd2 hk1 hk2; have ho7' : OwnL 60 w3.heap.size u7 v7 (ansL code h r) := ho7; clear ho7; obtain ⟨p7, c7, rfl, _, _⟩ := ho7'.reads.shape; rw [LA.out] at ho7' ⊢))
    | ((with_reducible refine wpl_storeC rfl 23 (.tmp 46) (.tmp 45) rfl rfl w1.heap.size 8 25 (rowM (head0 m false) (.slice none 0 0)) (rowM (head0 m false) (.slice p7 3 c7)) (.slice p7 3 c7) ?_ ?_ hatG ?_ (by kernel_rfl) ?_ ?_ ?_); rfl; rfl; exact (show (8 : Nat) < 9 by decide); rfl; rfl; go_must (intro u8 hatG8 hg; have ho8 := ho7'.kept hg LG3 hatG (noByteM _ _ _ _); have hu8 := below_grown hu hg hu.size (by omega); have T8 := hg.size; have T7 := hbB.size; have hatR8 := hatR.grown hg (by omega); clear hu hbB hatR hatG ho7' hg; have hu := hu8; have hatR := hatR8; have hatG := hatG8; clear hu8 hatR8 hatG8)))
  go_wp2_with fail
  have TB8 : w3.heap.size ≤ u8.heap.size := by omega
  obtain ⟨l3, hl3⟩ : ∃ l3, ansL code h r = l3 := ⟨_, rfl⟩
  have HL3 := Lib.hid hl3
  rw [hl3] at ho8 LA
  clear hl3
  have LG := hatG.lt
  go_loopw [49] (fun i wr => ∃ (k : Nat) (q : Option Addr) (cq : Nat), i = .int .i64 k ∧ k ≤ len ∧ Below w.heap.size w wr ∧ w3.heap.size ≤ wr.heap.size ∧ At wr w0.heap.size 25 zeroM ∧ At wr w1.heap.size 25 (rowM (head0 m false) (.slice q (3 + k) cq)) ∧ OwnL 60 w3.heap.size wr (.slice q (3 + k) cq) (l3 ++ more.take k)) (fun i _ => len - (intOf i).toNat)
  case atStart => exact ⟨0, p7, c7, rfl, by omega, hu, TB8, hatR, hatG, by rw [List.take_zero, List.append_nil]; exact ho8⟩
  case round =>
    clear hu hatR hatG ho8
    obtain ⟨k, q, cq, rfl, hk, hu, TB, hatR, hatG, hown⟩ := hrel
    by_cases hlt : k < len
    · have hel := (HM.out.below hu).elem k (by rw [HLEN.out]; exact hlt)
      rw [HLEN.out] at hel
      obtain ⟨x, hx1, hx2, b, off, c', pd, nd, hv, _, _, hltb, hra, hrd⟩ := hel
      cases hv
      have HX := Lib.hid hx1
      have HRA := Lib.hid hra
      have hdx := HD.out x hx2
      have hw := Below.refl wr.heap.size wr
      obtain ⟨acc, hacc⟩ : ∃ acc, l3 ++ more.take k = acc := ⟨_, rfl⟩
      rw [hacc] at hown
      have hal : acc.length = 3 + k := by rw [← hacc, List.length_append, LA.out, List.length_take, HLEN.out]; omega
      have HA := Lib.hid hacc
      have HAL := Lib.hid hal
      have K4 : acc.length + 1 ≤ maxLen := by simp [maxLen]; omega
      have K5 : (acc.length + 1) * 40 ≤ 140737488355328 := by omega
      have LGr := hatG.lt
      have LRr := hatR.lt
      have NK : 3 + k + 1 = 3 + (k + 1) := by omega
      clear hacc hx1 hra hal
      go_wp2_with (first
        | ((with_reducible refine wpl_loadE rfl 60 (.tmp 51) rfl b (off + k * 5) ?_ (row x (.slice pd x.data.length nd)).toArray _ HRA.out Try.underlying60 rfl (by kernel_rfl) ?_); rfl; clear HRA)
        | ((with_reducible refine wpl_allocAt rfl 60 rfl zeroRow (by kernel_rfl) ?_); go_must (intro x1 hata hb hs; clear hs; have hw_ := hw.trans (hb.mono hw.size); clear hw; have hw := hw_; clear hw_ hb; have La := hata.lt))
        | ((with_reducible refine wpl_storeR rfl 60 (.tmp 13) (.tmp 52) rfl rfl wr.heap.size 60 zeroRow (row x (.slice pd x.data.length nd)).toArray ?_ ?_ hata (by kernel_rfl) ?_ ?_ ?_); rfl; rfl; rfl; (simp [row, Value.oneCell']); go_must (intro x2 hata2 hg; have hw_ := below_grown hw hg hw.size (Nat.le_refl _); clear hw; have hw := hw_; clear hw_ hg; clear hata; have hata := hata2; clear hata2; have La2 := hata.lt; have c4 := hata.cell 4; simp [row] at c4))
        | (go_at_call 37; go_must (refine (clone _ _ _ (hrd.below hw) (by omega)).mono ?_; rintro e x3 ⟨v9, rfl, hv9, hb⟩; have T3 := hw.size; have hw_ := hw.trans (hb.mono hw.size); have hata_ := hata.ext hb; clear hw hata; have hw := hw_; have hata := hata_; clear hw_ hata_ hb; clear c4; obtain ⟨p9, c9, rfl, _⟩ := hv9.reads))
        | ((with_reducible refine wpl_storeC rfl 26 (.tmp 56) (.tmp 55) rfl rfl wr.heap.size 4 60 (row x (.slice pd x.data.length nd)).toArray (row x (.slice p9 x.data.length c9)).toArray (.slice p9 x.data.length c9) ?_ ?_ hata ?_ (by kernel_rfl) ?_ ?_ ?_); rfl; rfl; exact (show (4 : Nat) < 5 by decide); rfl; rfl; go_must (intro x4 hata4 hg; have hd9 := reads_grown hv9.reads hg (fun h0 z hz e => (by obtain ⟨g', e1, _, e2, _⟩ := hv9.form h0; rw [e1] at e; have e3 : g' = z := Option.some.inj e; have e4 : wr.heap.size = z := Option.some.inj hz; omega)); have hap : Apart (.slice q (3 + k) cq) (x, .slice p9 x.data.length c9) := (fun h0 z hz e => (by obtain ⟨g', e1, _, e2, _⟩ := hv9.form h0; have h1 := (hown.lt z hz).2; rw [show (x, Value.slice p9 x.data.length c9).2 = .slice p9 x.data.length c9 from rfl, e1] at e; have e3 : g' = z := Option.some.inj e; omega)); have hw_ := below_grown hw hg hw.size (Nat.le_refl _); clear hw; have hw := hw_; clear hw_ hg; clear hata hv9; have c8 := (hatG.ext hw).cell 8; simp [rowM] at c8))
        | ((with_reducible refine wpl_loadAt rfl 60 (.tmp 13) rfl wr.heap.size 60 (row x (.slice p9 x.data.length c9)).toArray hata4 _ Try.underlying60 rfl (by kernel_rfl) ?_ ?_); rfl)
        | (obtain ⟨i60, z60, i1, i2, i3, i4, i5⟩ := info41; (with_reducible refine wpl_push 23 60 40 60 (.tmp 59) (.tmp 58) rfl rfl rfl rfl rfl x (.slice p9 x.data.length c9) ?_ (build22 _ _) w3.heap.size i60 z60 Try.underlying23 i1 i2 i3 i4 i5 (.slice q (3 + k) cq) acc ?_ ?_ (hown.below hw) hd9 hap K4 K5 ?_ ?_); rfl; exact fun _ => rfl; exact fun _ => rfl; (have := hw.size; omega); go_must (clear i1 i2 i3 i4 i5 c8; intro v6 x6 hv6 hg; have hux := hu.trans (hw.mono hu.size); have hlo : ∀ z, (Value.slice q (3 + k) cq).ownBlock = some z → w3.heap.size ≤ z := (fun z e => (hown.lt z e).1); have hux6 := hux.grown hg hux.size (fun z e => (by have := hlo z e; omega)); have hatG6 := atGrownR (hatG.ext hw) hg (fun z e => (by have := hlo z e; omega)); have hatR6 := atGrownR (hatR.ext hw) hg (fun z e => (by have := hlo z e; omega)); have T6 := hg.size; have T5 := hw.size; obtain ⟨p6, c6, rfl, _, _⟩ := hv6.reads.shape; rw [List.length_append, HAL.out, show [x].length = 1 from rfl, NK] at hv6 ⊢; clear hg hlo hux))
        | ((with_reducible refine wpl_storeC rfl 23 (.tmp 62) (.tmp 61) rfl rfl w1.heap.size 8 25 (rowM (head0 m false) (.slice q (3 + k) cq)) (rowM (head0 m false) (.slice p6 (3 + (k + 1)) c6)) (.slice p6 (3 + (k + 1)) c6) ?_ ?_ hatG6 ?_ (by kernel_rfl) ?_ ?_ ?_); rfl; rfl; exact (show (8 : Nat) < 9 by decide); rfl; rfl; go_must (intro x7 hatG7 hg; have hown7 := hv6.kept hg LG3 hatG6 (noByteM _ _ _ _); have hu7 := below_grown hux6 hg hux6.size (by omega); have hatR7 := hatR6.grown hg (by omega); have T7 := hg.size)))
      go_roundw
      case rel =>
        have hk2 : k < more.length := by rw [HLEN.out]; exact hlt
        have hnew : l3 ++ more.take (k + 1) = acc ++ [x] := by
          rw [List.take_succ_eq_append_getElem hk2, ← List.append_assoc, HA.out]
          have := HX.out
          rw [List.getElem?_eq_getElem hk2] at this
          rw [Option.some.inj this]
        exact ⟨k + 1, _, _, by go_num, by omega, hu7, by omega, hatR7, hatG7, by rw [hnew]; exact hown7⟩
      case measure => simp [intOf]; omega
    · obtain rfl : k = len := by omega
      have htk : more.take k = more := List.take_of_length_le (by rw [HLEN.out]; omega)
      rw [htk] at hown
      clear htk
      have LRr := hatR.lt
      go_wp2_with (first
        | ((with_reducible refine wpl_loadAt rfl 25 (.tmp 11) rfl w1.heap.size 25 (rowM (head0 m false) (.slice q (3 + k) cq)) hatG _ Try.underlying25 rfl (by kernel_rfl) ?_ ?_); rfl)
        | ((with_reducible refine wpl_storeR rfl 25 (.tmp 10) (.tmp 64) rfl rfl w0.heap.size 25 zeroM (rowM (head0 m false) (.slice q (3 + k) cq)) ?_ ?_ hatR (by kernel_rfl) ?_ ?_ ?_); rfl; rfl; rfl; (simp [rowM, Value.oneCell']); go_must (intro xz hatz hg; have hownz := hown.kept hg (by omega) hatR noByteZ; have huz := below_grown hu hg hu.size (by omega))))
      exact end_cell (fn := Try.f22) (p := 10) (ty := 25) (by kernel_rfl) rfl hatz Try.underlying25 rfl (by kernel_rfl) rfl ⟨_, _, _, rfl, (show OwnL 60 w.heap.size xz _ (ansL code h r ++ more) by rw [HL3.out]; exact hownz.mono (by omega)), huz⟩
set_option maxRecDepth 100000 in
set_option maxHeartbeats 800000 in
theorem ans_2 (m : M) (p : Option Addr) (c : Nat) (code : Int) (h r : ByteArray) (vm : Value) (more : List A) (w : World) (hh : h.size ≤ maxLen) (hr : r.size ≤ maxLen) (hm : ReadsL w vm more) (hn : more.length ≤ 100) (hd : ∀ a ∈ more, a.data.length ≤ 140737488355300) (hc : 3000 ≤ code ∧ code ≤ 3999) (hi : -9223372036854775808 ≤ code ∧ code ≤ 9223372036854775807) :
    Calls Try.prog 22 #[.agg (rowM m (.slice p m.avps.length c)), .int .i64 code, .string h, .string r, vm] w (OwnIs w { head0 m true with avps := ansL (code) h r ++ more }) := by
  have hone : (Value.slice p m.avps.length c).oneCell' = true := rfl
  have one_max : ([(a268 (code), Value.slice none 4 0)] : List (A × Value)).length ≤ maxLen := by simp [maxLen]
  obtain ⟨n, hnn⟩ : ∃ n : Int, code = n := ⟨_, rfl⟩
  have hnb : 0 ≤ n ∧ n ≤ 4294967295 := by omega
  have PP := Lib.hid (fun u => by have := put (.slice none 0 0) [] n 4 u (by omega) Reads.sub0 (by simp); rw [show putted [] n 4 = bytesOf n 4 4 from by rw [putted4]; rfl] at this; exact this)
  have L4 := Lib.hid (show (bytesOf n 4 4).length = 4 by rw [bytesOf_length])
  have PO := Lib.hid (fun u => own2 h r u hh hr)
  have S1 := Lib.hid (rfl : w = w)
  have S2 := Lib.hid (rfl : w = w)
  have s64 : IntKind.u64.wrap n = n := by rw [IntKind.wrap_u64]; omega
  have LA := Lib.hid (show (ansL n h r).length = 3 from rfl)
  have H0 := Lib.hid hnn
  have HM := Lib.hid hm
  have two_max : [a268 n].length + 2 ≤ maxLen := by simp [maxLen]
  rw [hnn]
  rw [hnn] at one_max
  obtain ⟨pm, cm, rfl, q1, q2⟩ := hm.shape
  obtain ⟨len, hlen⟩ : ∃ len, more.length = len := ⟨_, rfl⟩
  have HLEN := Lib.hid hlen
  rw [hlen] at hn HM q1
  rw [hlen]
  have HD := Lib.hid hd
  subst hnn
  clear hm hlen hd hh hr
  have e1 : decide (3000 ≤ code) = true := decide_eq_true (by omega)
  have e2 : decide (code ≤ 3999) = true := decide_eq_true (by omega)
  go_enter Try.func22, Try.ntmps22
  go_upto_region 5 with (first
    | ((with_reducible refine wpl_boxAt rfl 25 (.tmp 0) rfl (rowM m (.slice p m.avps.length c)) ?_ ?_); rfl; go_must (intro w0 hat0 hu hs; clear hs; have c1 := hat0.cell 1; have c4 := hat0.cell 4; have c5 := hat0.cell 5; have c6 := hat0.cell 6; have c7 := hat0.cell 7; simp [rowM] at c1 c4 c5 c6 c7; have L0 := hat0.lt))
    | ((with_reducible refine wpl_allocAt rfl 25 rfl zeroM (by kernel_rfl) ?_); have _t := S1; clear _t; go_must (intro w1 hatR hb hs; clear hs S1; have hu_ := hu.trans (hb.mono hu.size); have hat0_ := hat0.ext hb; clear hu hat0; have hu := hu_; have hat0 := hat0_; clear hu_ hat0_ hb; clear c1 c4 c5 c6 c7; have c1 := hat0.cell 1; have c4 := hat0.cell 4; have c5 := hat0.cell 5; have c6 := hat0.cell 6; have c7 := hat0.cell 7; simp [rowM] at c1 c4 c5 c6 c7; have LR := hatR.lt))
    | ((with_reducible refine wpl_allocAt rfl 25 rfl zeroM (by kernel_rfl) ?_); have _t := S2; clear _t; go_must (intro w2 hatG hb hs; clear hs S2 c1 c4 c5 c6 c7; have Tw2_0 := hu.size; have Tw2_1 := hat0.lt; have Tw2_2 := hatR.lt; have hu_ := hu.trans (hb.mono hu.size); have hat0_ := hat0.ext hb; have hatR_ := hatR.ext hb; clear hu hat0 hatR; have hu := hu_; have hat0 := hat0_; have hatR := hatR_; clear hu_ hat0_ hatR_ hb; clear hat0; have LG := hatG.lt))
    | ((with_reducible refine wpl_storeR rfl 25 (.tmp 11) (.tmp 30) rfl rfl w1.heap.size 25 zeroM (rowM (head0 m true) (.slice none 0 0)) ?_ ?_ hatG (by kernel_rfl) ?_ ?_ ?_); rfl; rfl; rfl; (simp [rowM, Value.oneCell']); go_must (intro w3 hatG' hg; have hu_ := below_grown hu hg hu.size (by omega); have hatR_ := hatR.grown hg (by omega); clear hu hatR; have hu := hu_; have hatR := hatR_; clear hu_ hatR_ hg; clear hatG; have hatG := hatG'; clear hatG'; have LG3 := hatG.lt; have LR3 := hatR.lt; have TB := Nat.le_refl w3.heap.size))
    | (go_at_call 31; go_must (refine (PP.out w3).mono ?_; clear PP; rintro e u4 ⟨v4, rfl, hrow, hb⟩; have hbB := hb; have hd4 := hrow.reads; obtain ⟨p4, c4, rfl, _⟩ := id hd4; have B4 := Lib.hid (fun k (h : (Value.slice p4 (bytesOf code 4 4).length c4).ownBlock = some k) => (hrow.lt k h)); clear hrow; have hu_ := hu.trans (hb.mono hu.size); have hatR_ := hatR.ext hb; have hatG_ := hatG.ext hb; clear hu hatR hatG; have hu := hu_; have hatR := hatR_; have hatG := hatG_; clear hu_ hatR_ hatG_ hb; rw [L4.out] at hd4 B4 ⊢))
    | ((with_reducible refine wpl_buildS rfl 23 1 #[(0, .tmp 40)] rfl #[(0, .agg (row (a268 code) (.slice p4 4 c4)).toArray)] ?_ 60 (flat [(a268 code, .slice p4 4 c4)]).toArray (build1 _ _) ?_); (simp [Act.eval, row, a268]); go_must (intro u5 hat5 hb hs; clear hs; have T5 := hbB.size; have hu_ := hu.trans (hb.mono hu.size); have hatR_ := hatR.ext hb; have hatG_ := hatG.ext hb; have hbB_ := hbB.trans (hb.mono hbB.size); have hd4_ := hd4.below hb; clear hu hatR hatG hbB hd4; have hu := hu_; have hatR := hatR_; have hatG := hatG_; have hbB := hbB_; have hd4 := hd4_; clear hu_ hatR_ hatG_ hbB_ hd4_ hb; have ho5 := ownL_of_at (B := w3.heap.size) [(a268 code, .slice p4 4 c4)] hat5 T5 (one_maxL _) (fun z hz => by rw [List.mem_singleton] at hz; subst hz; exact ⟨hd4, fun _ e => by have := (B4.out _ e).2; omega⟩); clear hat5 hd4; have ho5' : OwnL 60 w3.heap.size u5 (.slice (some ⟨u4.heap.size, 0, none⟩) 1 1) [a268 code] := ho5; clear ho5; have ho5 := ho5'; clear ho5'; have L5 := (ho5.lt u4.heap.size rfl).2))
    | (go_at_call 40; go_must (refine (PO.out u5).mono ?_; clear PO; rintro e u6 ⟨g6, d1, d2, rfl, hat6, hd1, hd2, hk1, hk2, hb⟩; have hu_ := hu.trans (hb.mono hu.size); have hatR_ := hatR.ext hb; have hatG_ := hatG.ext hb; have hbB_ := hbB.trans (hb.mono hbB.size); have ho5_ := ho5.below hb; clear hu hatR hatG hbB ho5; have hu := hu_; have hatR := hatR_; have hatG := hatG_; have hbB := hbB_; have ho5 := ho5_; clear hu_ hatR_ hatG_ hbB_ ho5_ hb; have T6 := hbB.size))
    | (at_builtin; have _t := ho5; clear _t; go_must (obtain ⟨i60, z60, i1, i2, i3, i4, i5⟩ := info41; refine wpl_appendL rfl (.tmp 41) (.tmp 44) 23 rfl w3.heap.size 60 40 i60 z60 Try.underlying23 i1 i2 i3 i4 i5 _ ⟨g6, 0, none⟩ 2 [a268 code] [(a264 h, d1), (a296 r, d2)] rfl rfl ho5 (fun j u hj => (by rw [add_none, Nat.zero_add, hat6.cell j]; exact flat_two _ _ _ _ hj)) (apart2 hd1 hd2 (fun k e => (by have := hk1 k e; omega)) (fun k e => (by have := hk2 k e; omega))) (by simp [maxLen]) (by simp) T6 ?_; clear i1 i2 i3 i4 i5; intro v7 u7 ho7 hg0; have hg : World.grownBy _ _ (some u4.heap.size) := hg0; clear hg0; have T45 := T5; have hu_ := below_grown hu hg hu.size (by omega); have hatR_ := hatR.grown hg (by omega); have hatG_ := hatG.grown hg (by omega); have hbB_ := below_grown hbB hg hbB.size (by omega); clear hu hatR hatG hbB; have hu := hu_; have hatR := hatR_; have hatG := hatG_; have hbB := hbB_; clear hu_ hatR_ hatG_ hbB_ hg; clear ho5 hat6 hd1 hd2 hk1 hk2; have ho7' : OwnL 60 w3.heap.size u7 v7 (ansL code h r) := ho7; clear ho7; obtain ⟨p7, c7, rfl, _, _⟩ := ho7'.reads.shape; rw [LA.out] at ho7' ⊢))
    | ((with_reducible refine wpl_storeC rfl 23 (.tmp 46) (.tmp 45) rfl rfl w1.heap.size 8 25 (rowM (head0 m true) (.slice none 0 0)) (rowM (head0 m true) (.slice p7 3 c7)) (.slice p7 3 c7) ?_ ?_ hatG ?_ (by kernel_rfl) ?_ ?_ ?_); rfl; rfl; exact (show (8 : Nat) < 9 by decide); rfl; rfl; go_must (intro u8 hatG8 hg; have ho8 := ho7'.kept hg LG3 hatG (noByteM _ _ _ _); have hu8 := below_grown hu hg hu.size (by omega); have T8 := hg.size; have T7 := hbB.size; have hatR8 := hatR.grown hg (by omega); clear hu hbB hatR hatG ho7' hg; have hu := hu8; have hatR := hatR8; have hatG := hatG8; clear hu8 hatR8 hatG8)))
  go_wp2_with fail
  have TB8 : w3.heap.size ≤ u8.heap.size := by omega
  obtain ⟨l3, hl3⟩ : ∃ l3, ansL code h r = l3 := ⟨_, rfl⟩
  have HL3 := Lib.hid hl3
  rw [hl3] at ho8 LA
  clear hl3
  have LG := hatG.lt
  go_loopw [49] (fun i wr => ∃ (k : Nat) (q : Option Addr) (cq : Nat), i = .int .i64 k ∧ k ≤ len ∧ Below w.heap.size w wr ∧ w3.heap.size ≤ wr.heap.size ∧ At wr w0.heap.size 25 zeroM ∧ At wr w1.heap.size 25 (rowM (head0 m true) (.slice q (3 + k) cq)) ∧ OwnL 60 w3.heap.size wr (.slice q (3 + k) cq) (l3 ++ more.take k)) (fun i _ => len - (intOf i).toNat)
  case atStart => exact ⟨0, p7, c7, rfl, by omega, hu, TB8, hatR, hatG, by rw [List.take_zero, List.append_nil]; exact ho8⟩
  case round =>
    clear hu hatR hatG ho8
    obtain ⟨k, q, cq, rfl, hk, hu, TB, hatR, hatG, hown⟩ := hrel
    by_cases hlt : k < len
    · have hel := (HM.out.below hu).elem k (by rw [HLEN.out]; exact hlt)
      rw [HLEN.out] at hel
      obtain ⟨x, hx1, hx2, b, off, c', pd, nd, hv, _, _, hltb, hra, hrd⟩ := hel
      cases hv
      have HX := Lib.hid hx1
      have HRA := Lib.hid hra
      have hdx := HD.out x hx2
      have hw := Below.refl wr.heap.size wr
      obtain ⟨acc, hacc⟩ : ∃ acc, l3 ++ more.take k = acc := ⟨_, rfl⟩
      rw [hacc] at hown
      have hal : acc.length = 3 + k := by rw [← hacc, List.length_append, LA.out, List.length_take, HLEN.out]; omega
      have HA := Lib.hid hacc
      have HAL := Lib.hid hal
      have K4 : acc.length + 1 ≤ maxLen := by simp [maxLen]; omega
      have K5 : (acc.length + 1) * 40 ≤ 140737488355328 := by omega
      have LGr := hatG.lt
      have LRr := hatR.lt
      have NK : 3 + k + 1 = 3 + (k + 1) := by omega
      clear hacc hx1 hra hal
      go_wp2_with (first
        | ((with_reducible refine wpl_loadE rfl 60 (.tmp 51) rfl b (off + k * 5) ?_ (row x (.slice pd x.data.length nd)).toArray _ HRA.out Try.underlying60 rfl (by kernel_rfl) ?_); rfl; clear HRA)
        | ((with_reducible refine wpl_allocAt rfl 60 rfl zeroRow (by kernel_rfl) ?_); go_must (intro x1 hata hb hs; clear hs; have hw_ := hw.trans (hb.mono hw.size); clear hw; have hw := hw_; clear hw_ hb; have La := hata.lt))
        | ((with_reducible refine wpl_storeR rfl 60 (.tmp 13) (.tmp 52) rfl rfl wr.heap.size 60 zeroRow (row x (.slice pd x.data.length nd)).toArray ?_ ?_ hata (by kernel_rfl) ?_ ?_ ?_); rfl; rfl; rfl; (simp [row, Value.oneCell']); go_must (intro x2 hata2 hg; have hw_ := below_grown hw hg hw.size (Nat.le_refl _); clear hw; have hw := hw_; clear hw_ hg; clear hata; have hata := hata2; clear hata2; have La2 := hata.lt; have c4 := hata.cell 4; simp [row] at c4))
        | (go_at_call 37; go_must (refine (clone _ _ _ (hrd.below hw) (by omega)).mono ?_; rintro e x3 ⟨v9, rfl, hv9, hb⟩; have T3 := hw.size; have hw_ := hw.trans (hb.mono hw.size); have hata_ := hata.ext hb; clear hw hata; have hw := hw_; have hata := hata_; clear hw_ hata_ hb; clear c4; obtain ⟨p9, c9, rfl, _⟩ := hv9.reads))
        | ((with_reducible refine wpl_storeC rfl 26 (.tmp 56) (.tmp 55) rfl rfl wr.heap.size 4 60 (row x (.slice pd x.data.length nd)).toArray (row x (.slice p9 x.data.length c9)).toArray (.slice p9 x.data.length c9) ?_ ?_ hata ?_ (by kernel_rfl) ?_ ?_ ?_); rfl; rfl; exact (show (4 : Nat) < 5 by decide); rfl; rfl; go_must (intro x4 hata4 hg; have hd9 := reads_grown hv9.reads hg (fun h0 z hz e => (by obtain ⟨g', e1, _, e2, _⟩ := hv9.form h0; rw [e1] at e; have e3 : g' = z := Option.some.inj e; have e4 : wr.heap.size = z := Option.some.inj hz; omega)); have hap : Apart (.slice q (3 + k) cq) (x, .slice p9 x.data.length c9) := (fun h0 z hz e => (by obtain ⟨g', e1, _, e2, _⟩ := hv9.form h0; have h1 := (hown.lt z hz).2; rw [show (x, Value.slice p9 x.data.length c9).2 = .slice p9 x.data.length c9 from rfl, e1] at e; have e3 : g' = z := Option.some.inj e; omega)); have hw_ := below_grown hw hg hw.size (Nat.le_refl _); clear hw; have hw := hw_; clear hw_ hg; clear hata hv9; have c8 := (hatG.ext hw).cell 8; simp [rowM] at c8))
        | ((with_reducible refine wpl_loadAt rfl 60 (.tmp 13) rfl wr.heap.size 60 (row x (.slice p9 x.data.length c9)).toArray hata4 _ Try.underlying60 rfl (by kernel_rfl) ?_ ?_); rfl)
        | (obtain ⟨i60, z60, i1, i2, i3, i4, i5⟩ := info41; (with_reducible refine wpl_push 23 60 40 60 (.tmp 59) (.tmp 58) rfl rfl rfl rfl rfl x (.slice p9 x.data.length c9) ?_ (build22 _ _) w3.heap.size i60 z60 Try.underlying23 i1 i2 i3 i4 i5 (.slice q (3 + k) cq) acc ?_ ?_ (hown.below hw) hd9 hap K4 K5 ?_ ?_); rfl; exact fun _ => rfl; exact fun _ => rfl; (have := hw.size; omega); go_must (clear i1 i2 i3 i4 i5 c8; intro v6 x6 hv6 hg; have hux := hu.trans (hw.mono hu.size); have hlo : ∀ z, (Value.slice q (3 + k) cq).ownBlock = some z → w3.heap.size ≤ z := (fun z e => (hown.lt z e).1); have hux6 := hux.grown hg hux.size (fun z e => (by have := hlo z e; omega)); have hatG6 := atGrownR (hatG.ext hw) hg (fun z e => (by have := hlo z e; omega)); have hatR6 := atGrownR (hatR.ext hw) hg (fun z e => (by have := hlo z e; omega)); have T6 := hg.size; have T5 := hw.size; obtain ⟨p6, c6, rfl, _, _⟩ := hv6.reads.shape; rw [List.length_append, HAL.out, show [x].length = 1 from rfl, NK] at hv6 ⊢; clear hg hlo hux))
        | ((with_reducible refine wpl_storeC rfl 23 (.tmp 62) (.tmp 61) rfl rfl w1.heap.size 8 25 (rowM (head0 m true) (.slice q (3 + k) cq)) (rowM (head0 m true) (.slice p6 (3 + (k + 1)) c6)) (.slice p6 (3 + (k + 1)) c6) ?_ ?_ hatG6 ?_ (by kernel_rfl) ?_ ?_ ?_); rfl; rfl; exact (show (8 : Nat) < 9 by decide); rfl; rfl; go_must (intro x7 hatG7 hg; have hown7 := hv6.kept hg LG3 hatG6 (noByteM _ _ _ _); have hu7 := below_grown hux6 hg hux6.size (by omega); have hatR7 := hatR6.grown hg (by omega); have T7 := hg.size)))
      go_roundw
      case rel =>
        have hk2 : k < more.length := by rw [HLEN.out]; exact hlt
        have hnew : l3 ++ more.take (k + 1) = acc ++ [x] := by
          rw [List.take_succ_eq_append_getElem hk2, ← List.append_assoc, HA.out]
          have := HX.out
          rw [List.getElem?_eq_getElem hk2] at this
          rw [Option.some.inj this]
        exact ⟨k + 1, _, _, by go_num, by omega, hu7, by omega, hatR7, hatG7, by rw [hnew]; exact hown7⟩
      case measure => simp [intOf]; omega
    · obtain rfl : k = len := by omega
      have htk : more.take k = more := List.take_of_length_le (by rw [HLEN.out]; omega)
      rw [htk] at hown
      clear htk
      have LRr := hatR.lt
      go_wp2_with (first
        | ((with_reducible refine wpl_loadAt rfl 25 (.tmp 11) rfl w1.heap.size 25 (rowM (head0 m true) (.slice q (3 + k) cq)) hatG _ Try.underlying25 rfl (by kernel_rfl) ?_ ?_); rfl)
        | ((with_reducible refine wpl_storeR rfl 25 (.tmp 10) (.tmp 64) rfl rfl w0.heap.size 25 zeroM (rowM (head0 m true) (.slice q (3 + k) cq)) ?_ ?_ hatR (by kernel_rfl) ?_ ?_ ?_); rfl; rfl; rfl; (simp [rowM, Value.oneCell']); go_must (intro xz hatz hg; have hownz := hown.kept hg (by omega) hatR noByteZ; have huz := below_grown hu hg hu.size (by omega))))
      exact end_cell (fn := Try.f22) (p := 10) (ty := 25) (by kernel_rfl) rfl hatz Try.underlying25 rfl (by kernel_rfl) rfl ⟨_, _, _, rfl, (show OwnL 60 w.heap.size xz _ (ansL code h r ++ more) by rw [HL3.out]; exact hownz.mono (by omega)), huz⟩
set_option maxRecDepth 100000 in
set_option maxHeartbeats 800000 in
theorem ans_3 (m : M) (p : Option Addr) (c : Nat) (code : Int) (h r : ByteArray) (vm : Value) (more : List A) (w : World) (hh : h.size ≤ maxLen) (hr : r.size ≤ maxLen) (hm : ReadsL w vm more) (hn : more.length ≤ 100) (hd : ∀ a ∈ more, a.data.length ≤ 140737488355300) (hc : 4000 ≤ code ∧ code ≤ 4294967295) (hi : -9223372036854775808 ≤ code ∧ code ≤ 9223372036854775807) :
    Calls Try.prog 22 #[.agg (rowM m (.slice p m.avps.length c)), .int .i64 code, .string h, .string r, vm] w (OwnIs w { head0 m false with avps := ansL (code) h r ++ more }) := by
  have hone : (Value.slice p m.avps.length c).oneCell' = true := rfl
  have one_max : ([(a268 (code), Value.slice none 4 0)] : List (A × Value)).length ≤ maxLen := by simp [maxLen]
  obtain ⟨n, hnn⟩ : ∃ n : Int, code = n := ⟨_, rfl⟩
  have hnb : 0 ≤ n ∧ n ≤ 4294967295 := by omega
  have PP := Lib.hid (fun u => by have := put (.slice none 0 0) [] n 4 u (by omega) Reads.sub0 (by simp); rw [show putted [] n 4 = bytesOf n 4 4 from by rw [putted4]; rfl] at this; exact this)
  have L4 := Lib.hid (show (bytesOf n 4 4).length = 4 by rw [bytesOf_length])
  have PO := Lib.hid (fun u => own2 h r u hh hr)
  have S1 := Lib.hid (rfl : w = w)
  have S2 := Lib.hid (rfl : w = w)
  have s64 : IntKind.u64.wrap n = n := by rw [IntKind.wrap_u64]; omega
  have LA := Lib.hid (show (ansL n h r).length = 3 from rfl)
  have H0 := Lib.hid hnn
  have HM := Lib.hid hm
  have two_max : [a268 n].length + 2 ≤ maxLen := by simp [maxLen]
  rw [hnn]
  rw [hnn] at one_max
  obtain ⟨pm, cm, rfl, q1, q2⟩ := hm.shape
  obtain ⟨len, hlen⟩ : ∃ len, more.length = len := ⟨_, rfl⟩
  have HLEN := Lib.hid hlen
  rw [hlen] at hn HM q1
  rw [hlen]
  have HD := Lib.hid hd
  subst hnn
  clear hm hlen hd hh hr
  have e1 : decide (3000 ≤ code) = true := decide_eq_true (by omega)
  have e2 : decide (code ≤ 3999) = false := decide_eq_false (by omega)
  go_enter Try.func22, Try.ntmps22
  go_upto_region 5 with (first
    | ((with_reducible refine wpl_boxAt rfl 25 (.tmp 0) rfl (rowM m (.slice p m.avps.length c)) ?_ ?_); rfl; go_must (intro w0 hat0 hu hs; clear hs; have c1 := hat0.cell 1; have c4 := hat0.cell 4; have c5 := hat0.cell 5; have c6 := hat0.cell 6; have c7 := hat0.cell 7; simp [rowM] at c1 c4 c5 c6 c7; have L0 := hat0.lt))
    | ((with_reducible refine wpl_allocAt rfl 25 rfl zeroM (by kernel_rfl) ?_); have _t := S1; clear _t; go_must (intro w1 hatR hb hs; clear hs S1; have hu_ := hu.trans (hb.mono hu.size); have hat0_ := hat0.ext hb; clear hu hat0; have hu := hu_; have hat0 := hat0_; clear hu_ hat0_ hb; clear c1 c4 c5 c6 c7; have c1 := hat0.cell 1; have c4 := hat0.cell 4; have c5 := hat0.cell 5; have c6 := hat0.cell 6; have c7 := hat0.cell 7; simp [rowM] at c1 c4 c5 c6 c7; have LR := hatR.lt))
    | ((with_reducible refine wpl_allocAt rfl 25 rfl zeroM (by kernel_rfl) ?_); have _t := S2; clear _t; go_must (intro w2 hatG hb hs; clear hs S2 c1 c4 c5 c6 c7; have Tw2_0 := hu.size; have Tw2_1 := hat0.lt; have Tw2_2 := hatR.lt; have hu_ := hu.trans (hb.mono hu.size); have hat0_ := hat0.ext hb; have hatR_ := hatR.ext hb; clear hu hat0 hatR; have hu := hu_; have hat0 := hat0_; have hatR := hatR_; clear hu_ hat0_ hatR_ hb; clear hat0; have LG := hatG.lt))
    | ((with_reducible refine wpl_storeR rfl 25 (.tmp 11) (.tmp 30) rfl rfl w1.heap.size 25 zeroM (rowM (head0 m false) (.slice none 0 0)) ?_ ?_ hatG (by kernel_rfl) ?_ ?_ ?_); rfl; rfl; rfl; (simp [rowM, Value.oneCell']); go_must (intro w3 hatG' hg; have hu_ := below_grown hu hg hu.size (by omega); have hatR_ := hatR.grown hg (by omega); clear hu hatR; have hu := hu_; have hatR := hatR_; clear hu_ hatR_ hg; clear hatG; have hatG := hatG'; clear hatG'; have LG3 := hatG.lt; have LR3 := hatR.lt; have TB := Nat.le_refl w3.heap.size))
    | (go_at_call 31; go_must (refine (PP.out w3).mono ?_; clear PP; rintro e u4 ⟨v4, rfl, hrow, hb⟩; have hbB := hb; have hd4 := hrow.reads; obtain ⟨p4, c4, rfl, _⟩ := id hd4; have B4 := Lib.hid (fun k (h : (Value.slice p4 (bytesOf code 4 4).length c4).ownBlock = some k) => (hrow.lt k h)); clear hrow; have hu_ := hu.trans (hb.mono hu.size); have hatR_ := hatR.ext hb; have hatG_ := hatG.ext hb; clear hu hatR hatG; have hu := hu_; have hatR := hatR_; have hatG := hatG_; clear hu_ hatR_ hatG_ hb; rw [L4.out] at hd4 B4 ⊢))
    | ((with_reducible refine wpl_buildS rfl 23 1 #[(0, .tmp 40)] rfl #[(0, .agg (row (a268 code) (.slice p4 4 c4)).toArray)] ?_ 60 (flat [(a268 code, .slice p4 4 c4)]).toArray (build1 _ _) ?_); (simp [Act.eval, row, a268]); go_must (intro u5 hat5 hb hs; clear hs; have T5 := hbB.size; have hu_ := hu.trans (hb.mono hu.size); have hatR_ := hatR.ext hb; have hatG_ := hatG.ext hb; have hbB_ := hbB.trans (hb.mono hbB.size); have hd4_ := hd4.below hb; clear hu hatR hatG hbB hd4; have hu := hu_; have hatR := hatR_; have hatG := hatG_; have hbB := hbB_; have hd4 := hd4_; clear hu_ hatR_ hatG_ hbB_ hd4_ hb; have ho5 := ownL_of_at (B := w3.heap.size) [(a268 code, .slice p4 4 c4)] hat5 T5 (one_maxL _) (fun z hz => by rw [List.mem_singleton] at hz; subst hz; exact ⟨hd4, fun _ e => by have := (B4.out _ e).2; omega⟩); clear hat5 hd4; have ho5' : OwnL 60 w3.heap.size u5 (.slice (some ⟨u4.heap.size, 0, none⟩) 1 1) [a268 code] := ho5; clear ho5; have ho5 := ho5'; clear ho5'; have L5 := (ho5.lt u4.heap.size rfl).2))
    | (go_at_call 40; go_must (refine (PO.out u5).mono ?_; clear PO; rintro e u6 ⟨g6, d1, d2, rfl, hat6, hd1, hd2, hk1, hk2, hb⟩; have hu_ := hu.trans (hb.mono hu.size); have hatR_ := hatR.ext hb; have hatG_ := hatG.ext hb; have hbB_ := hbB.trans (hb.mono hbB.size); have ho5_ := ho5.below hb; clear hu hatR hatG hbB ho5; have hu := hu_; have hatR := hatR_; have hatG := hatG_; have hbB := hbB_; have ho5 := ho5_; clear hu_ hatR_ hatG_ hbB_ ho5_ hb; have T6 := hbB.size))
    | (at_builtin; have _t := ho5; clear _t; go_must (obtain ⟨i60, z60, i1, i2, i3, i4, i5⟩ := info41; refine wpl_appendL rfl (.tmp 41) (.tmp 44) 23 rfl w3.heap.size 60 40 i60 z60 Try.underlying23 i1 i2 i3 i4 i5 _ ⟨g6, 0, none⟩ 2 [a268 code] [(a264 h, d1), (a296 r, d2)] rfl rfl ho5 (fun j u hj => (by rw [add_none, Nat.zero_add, hat6.cell j]; exact flat_two _ _ _ _ hj)) (apart2 hd1 hd2 (fun k e => (by have := hk1 k e; omega)) (fun k e => (by have := hk2 k e; omega))) (by simp [maxLen]) (by simp) T6 ?_; clear i1 i2 i3 i4 i5; intro v7 u7 ho7 hg0; have hg : World.grownBy _ _ (some u4.heap.size) := hg0; clear hg0; have T45 := T5; have hu_ := below_grown hu hg hu.size (by omega); have hatR_ := hatR.grown hg (by omega); have hatG_ := hatG.grown hg (by omega); have hbB_ := below_grown hbB hg hbB.size (by omega); clear hu hatR hatG hbB; have hu := hu_; have hatR := hatR_; have hatG := hatG_; have hbB := hbB_; clear hu_ hatR_ hatG_ hbB_ hg; clear ho5 hat6 hd1 hd2 hk1 hk2; have ho7' : OwnL 60 w3.heap.size u7 v7 (ansL code h r) := ho7; clear ho7; obtain ⟨p7, c7, rfl, _, _⟩ := ho7'.reads.shape; rw [LA.out] at ho7' ⊢))
    | ((with_reducible refine wpl_storeC rfl 23 (.tmp 46) (.tmp 45) rfl rfl w1.heap.size 8 25 (rowM (head0 m false) (.slice none 0 0)) (rowM (head0 m false) (.slice p7 3 c7)) (.slice p7 3 c7) ?_ ?_ hatG ?_ (by kernel_rfl) ?_ ?_ ?_); rfl; rfl; exact (show (8 : Nat) < 9 by decide); rfl; rfl; go_must (intro u8 hatG8 hg; have ho8 := ho7'.kept hg LG3 hatG (noByteM _ _ _ _); have hu8 := below_grown hu hg hu.size (by omega); have T8 := hg.size; have T7 := hbB.size; have hatR8 := hatR.grown hg (by omega); clear hu hbB hatR hatG ho7' hg; have hu := hu8; have hatR := hatR8; have hatG := hatG8; clear hu8 hatR8 hatG8)))
  go_wp2_with fail
  have TB8 : w3.heap.size ≤ u8.heap.size := by omega
  obtain ⟨l3, hl3⟩ : ∃ l3, ansL code h r = l3 := ⟨_, rfl⟩
  have HL3 := Lib.hid hl3
  rw [hl3] at ho8 LA
  clear hl3
  have LG := hatG.lt
  go_loopw [49] (fun i wr => ∃ (k : Nat) (q : Option Addr) (cq : Nat), i = .int .i64 k ∧ k ≤ len ∧ Below w.heap.size w wr ∧ w3.heap.size ≤ wr.heap.size ∧ At wr w0.heap.size 25 zeroM ∧ At wr w1.heap.size 25 (rowM (head0 m false) (.slice q (3 + k) cq)) ∧ OwnL 60 w3.heap.size wr (.slice q (3 + k) cq) (l3 ++ more.take k)) (fun i _ => len - (intOf i).toNat)
  case atStart => exact ⟨0, p7, c7, rfl, by omega, hu, TB8, hatR, hatG, by rw [List.take_zero, List.append_nil]; exact ho8⟩
  case round =>
    clear hu hatR hatG ho8
    obtain ⟨k, q, cq, rfl, hk, hu, TB, hatR, hatG, hown⟩ := hrel
    by_cases hlt : k < len
    · have hel := (HM.out.below hu).elem k (by rw [HLEN.out]; exact hlt)
      rw [HLEN.out] at hel
      obtain ⟨x, hx1, hx2, b, off, c', pd, nd, hv, _, _, hltb, hra, hrd⟩ := hel
      cases hv
      have HX := Lib.hid hx1
      have HRA := Lib.hid hra
      have hdx := HD.out x hx2
      have hw := Below.refl wr.heap.size wr
      obtain ⟨acc, hacc⟩ : ∃ acc, l3 ++ more.take k = acc := ⟨_, rfl⟩
      rw [hacc] at hown
      have hal : acc.length = 3 + k := by rw [← hacc, List.length_append, LA.out, List.length_take, HLEN.out]; omega
      have HA := Lib.hid hacc
      have HAL := Lib.hid hal
      have K4 : acc.length + 1 ≤ maxLen := by simp [maxLen]; omega
      have K5 : (acc.length + 1) * 40 ≤ 140737488355328 := by omega
      have LGr := hatG.lt
      have LRr := hatR.lt
      have NK : 3 + k + 1 = 3 + (k + 1) := by omega
      clear hacc hx1 hra hal
      go_wp2_with (first
        | ((with_reducible refine wpl_loadE rfl 60 (.tmp 51) rfl b (off + k * 5) ?_ (row x (.slice pd x.data.length nd)).toArray _ HRA.out Try.underlying60 rfl (by kernel_rfl) ?_); rfl; clear HRA)
        | ((with_reducible refine wpl_allocAt rfl 60 rfl zeroRow (by kernel_rfl) ?_); go_must (intro x1 hata hb hs; clear hs; have hw_ := hw.trans (hb.mono hw.size); clear hw; have hw := hw_; clear hw_ hb; have La := hata.lt))
        | ((with_reducible refine wpl_storeR rfl 60 (.tmp 13) (.tmp 52) rfl rfl wr.heap.size 60 zeroRow (row x (.slice pd x.data.length nd)).toArray ?_ ?_ hata (by kernel_rfl) ?_ ?_ ?_); rfl; rfl; rfl; (simp [row, Value.oneCell']); go_must (intro x2 hata2 hg; have hw_ := below_grown hw hg hw.size (Nat.le_refl _); clear hw; have hw := hw_; clear hw_ hg; clear hata; have hata := hata2; clear hata2; have La2 := hata.lt; have c4 := hata.cell 4; simp [row] at c4))
        | (go_at_call 37; go_must (refine (clone _ _ _ (hrd.below hw) (by omega)).mono ?_; rintro e x3 ⟨v9, rfl, hv9, hb⟩; have T3 := hw.size; have hw_ := hw.trans (hb.mono hw.size); have hata_ := hata.ext hb; clear hw hata; have hw := hw_; have hata := hata_; clear hw_ hata_ hb; clear c4; obtain ⟨p9, c9, rfl, _⟩ := hv9.reads))
        | ((with_reducible refine wpl_storeC rfl 26 (.tmp 56) (.tmp 55) rfl rfl wr.heap.size 4 60 (row x (.slice pd x.data.length nd)).toArray (row x (.slice p9 x.data.length c9)).toArray (.slice p9 x.data.length c9) ?_ ?_ hata ?_ (by kernel_rfl) ?_ ?_ ?_); rfl; rfl; exact (show (4 : Nat) < 5 by decide); rfl; rfl; go_must (intro x4 hata4 hg; have hd9 := reads_grown hv9.reads hg (fun h0 z hz e => (by obtain ⟨g', e1, _, e2, _⟩ := hv9.form h0; rw [e1] at e; have e3 : g' = z := Option.some.inj e; have e4 : wr.heap.size = z := Option.some.inj hz; omega)); have hap : Apart (.slice q (3 + k) cq) (x, .slice p9 x.data.length c9) := (fun h0 z hz e => (by obtain ⟨g', e1, _, e2, _⟩ := hv9.form h0; have h1 := (hown.lt z hz).2; rw [show (x, Value.slice p9 x.data.length c9).2 = .slice p9 x.data.length c9 from rfl, e1] at e; have e3 : g' = z := Option.some.inj e; omega)); have hw_ := below_grown hw hg hw.size (Nat.le_refl _); clear hw; have hw := hw_; clear hw_ hg; clear hata hv9; have c8 := (hatG.ext hw).cell 8; simp [rowM] at c8))
        | ((with_reducible refine wpl_loadAt rfl 60 (.tmp 13) rfl wr.heap.size 60 (row x (.slice p9 x.data.length c9)).toArray hata4 _ Try.underlying60 rfl (by kernel_rfl) ?_ ?_); rfl)
        | (obtain ⟨i60, z60, i1, i2, i3, i4, i5⟩ := info41; (with_reducible refine wpl_push 23 60 40 60 (.tmp 59) (.tmp 58) rfl rfl rfl rfl rfl x (.slice p9 x.data.length c9) ?_ (build22 _ _) w3.heap.size i60 z60 Try.underlying23 i1 i2 i3 i4 i5 (.slice q (3 + k) cq) acc ?_ ?_ (hown.below hw) hd9 hap K4 K5 ?_ ?_); rfl; exact fun _ => rfl; exact fun _ => rfl; (have := hw.size; omega); go_must (clear i1 i2 i3 i4 i5 c8; intro v6 x6 hv6 hg; have hux := hu.trans (hw.mono hu.size); have hlo : ∀ z, (Value.slice q (3 + k) cq).ownBlock = some z → w3.heap.size ≤ z := (fun z e => (hown.lt z e).1); have hux6 := hux.grown hg hux.size (fun z e => (by have := hlo z e; omega)); have hatG6 := atGrownR (hatG.ext hw) hg (fun z e => (by have := hlo z e; omega)); have hatR6 := atGrownR (hatR.ext hw) hg (fun z e => (by have := hlo z e; omega)); have T6 := hg.size; have T5 := hw.size; obtain ⟨p6, c6, rfl, _, _⟩ := hv6.reads.shape; rw [List.length_append, HAL.out, show [x].length = 1 from rfl, NK] at hv6 ⊢; clear hg hlo hux))
        | ((with_reducible refine wpl_storeC rfl 23 (.tmp 62) (.tmp 61) rfl rfl w1.heap.size 8 25 (rowM (head0 m false) (.slice q (3 + k) cq)) (rowM (head0 m false) (.slice p6 (3 + (k + 1)) c6)) (.slice p6 (3 + (k + 1)) c6) ?_ ?_ hatG6 ?_ (by kernel_rfl) ?_ ?_ ?_); rfl; rfl; exact (show (8 : Nat) < 9 by decide); rfl; rfl; go_must (intro x7 hatG7 hg; have hown7 := hv6.kept hg LG3 hatG6 (noByteM _ _ _ _); have hu7 := below_grown hux6 hg hux6.size (by omega); have hatR7 := hatR6.grown hg (by omega); have T7 := hg.size)))
      go_roundw
      case rel =>
        have hk2 : k < more.length := by rw [HLEN.out]; exact hlt
        have hnew : l3 ++ more.take (k + 1) = acc ++ [x] := by
          rw [List.take_succ_eq_append_getElem hk2, ← List.append_assoc, HA.out]
          have := HX.out
          rw [List.getElem?_eq_getElem hk2] at this
          rw [Option.some.inj this]
        exact ⟨k + 1, _, _, by go_num, by omega, hu7, by omega, hatR7, hatG7, by rw [hnew]; exact hown7⟩
      case measure => simp [intOf]; omega
    · obtain rfl : k = len := by omega
      have htk : more.take k = more := List.take_of_length_le (by rw [HLEN.out]; omega)
      rw [htk] at hown
      clear htk
      have LRr := hatR.lt
      go_wp2_with (first
        | ((with_reducible refine wpl_loadAt rfl 25 (.tmp 11) rfl w1.heap.size 25 (rowM (head0 m false) (.slice q (3 + k) cq)) hatG _ Try.underlying25 rfl (by kernel_rfl) ?_ ?_); rfl)
        | ((with_reducible refine wpl_storeR rfl 25 (.tmp 10) (.tmp 64) rfl rfl w0.heap.size 25 zeroM (rowM (head0 m false) (.slice q (3 + k) cq)) ?_ ?_ hatR (by kernel_rfl) ?_ ?_ ?_); rfl; rfl; rfl; (simp [rowM, Value.oneCell']); go_must (intro xz hatz hg; have hownz := hown.kept hg (by omega) hatR noByteZ; have huz := below_grown hu hg hu.size (by omega))))
      exact end_cell (fn := Try.f22) (p := 10) (ty := 25) (by kernel_rfl) rfl hatz Try.underlying25 rfl (by kernel_rfl) rfl ⟨_, _, _, rfl, (show OwnL 60 w.heap.size xz _ (ansL code h r ++ more) by rw [HL3.out]; exact hownz.mono (by omega)), huz⟩
set_option maxRecDepth 100000 in
set_option maxHeartbeats 800000 in
theorem ans_4 (m : M) (p : Option Addr) (c : Nat) (code : Int) (h r : ByteArray) (vm : Value) (more : List A) (w : World) (hh : h.size ≤ maxLen) (hr : r.size ≤ maxLen) (hm : ReadsL w vm more) (hn : more.length ≤ 100) (hd : ∀ a ∈ more, a.data.length ≤ 140737488355300) (hc : 4294967295 < code) (hi : -9223372036854775808 ≤ code ∧ code ≤ 9223372036854775807) :
    Calls Try.prog 22 #[.agg (rowM m (.slice p m.avps.length c)), .int .i64 code, .string h, .string r, vm] w (OwnIs w { head0 m false with avps := ansL (0) h r ++ more }) := by
  have hone : (Value.slice p m.avps.length c).oneCell' = true := rfl
  have one_max : ([(a268 (0), Value.slice none 4 0)] : List (A × Value)).length ≤ maxLen := by simp [maxLen]
  obtain ⟨n, hnn⟩ : ∃ n : Int, 0 = n := ⟨_, rfl⟩
  have hnb : 0 ≤ n ∧ n ≤ 4294967295 := by omega
  have PP := Lib.hid (fun u => by have := put (.slice none 0 0) [] n 4 u (by omega) Reads.sub0 (by simp); rw [show putted [] n 4 = bytesOf n 4 4 from by rw [putted4]; rfl] at this; exact this)
  have L4 := Lib.hid (show (bytesOf n 4 4).length = 4 by rw [bytesOf_length])
  have PO := Lib.hid (fun u => own2 h r u hh hr)
  have S1 := Lib.hid (rfl : w = w)
  have S2 := Lib.hid (rfl : w = w)
  have s64 : IntKind.u64.wrap n = n := by rw [IntKind.wrap_u64]; omega
  have LA := Lib.hid (show (ansL n h r).length = 3 from rfl)
  have H0 := Lib.hid hnn
  have HM := Lib.hid hm
  have two_max : [a268 n].length + 2 ≤ maxLen := by simp [maxLen]
  rw [hnn]
  rw [hnn] at one_max
  obtain ⟨pm, cm, rfl, q1, q2⟩ := hm.shape
  obtain ⟨len, hlen⟩ : ∃ len, more.length = len := ⟨_, rfl⟩
  have HLEN := Lib.hid hlen
  rw [hlen] at hn HM q1
  rw [hlen]
  have HD := Lib.hid hd
  subst hnn
  clear hm hlen hd hh hr
  have e1 : decide (3000 ≤ code) = true := decide_eq_true (by omega)
  have e2 : decide (code ≤ 3999) = false := decide_eq_false (by omega)
  go_enter Try.func22, Try.ntmps22
  go_upto_region 5 with (first
    | ((with_reducible refine wpl_boxAt rfl 25 (.tmp 0) rfl (rowM m (.slice p m.avps.length c)) ?_ ?_); rfl; go_must (intro w0 hat0 hu hs; clear hs; have c1 := hat0.cell 1; have c4 := hat0.cell 4; have c5 := hat0.cell 5; have c6 := hat0.cell 6; have c7 := hat0.cell 7; simp [rowM] at c1 c4 c5 c6 c7; have L0 := hat0.lt))
    | ((with_reducible refine wpl_allocAt rfl 25 rfl zeroM (by kernel_rfl) ?_); have _t := S1; clear _t; go_must (intro w1 hatR hb hs; clear hs S1; have hu_ := hu.trans (hb.mono hu.size); have hat0_ := hat0.ext hb; clear hu hat0; have hu := hu_; have hat0 := hat0_; clear hu_ hat0_ hb; clear c1 c4 c5 c6 c7; have c1 := hat0.cell 1; have c4 := hat0.cell 4; have c5 := hat0.cell 5; have c6 := hat0.cell 6; have c7 := hat0.cell 7; simp [rowM] at c1 c4 c5 c6 c7; have LR := hatR.lt))
    | ((with_reducible refine wpl_allocAt rfl 25 rfl zeroM (by kernel_rfl) ?_); have _t := S2; clear _t; go_must (intro w2 hatG hb hs; clear hs S2 c1 c4 c5 c6 c7; have Tw2_0 := hu.size; have Tw2_1 := hat0.lt; have Tw2_2 := hatR.lt; have hu_ := hu.trans (hb.mono hu.size); have hat0_ := hat0.ext hb; have hatR_ := hatR.ext hb; clear hu hat0 hatR; have hu := hu_; have hat0 := hat0_; have hatR := hatR_; clear hu_ hat0_ hatR_ hb; clear hat0; have LG := hatG.lt))
    | ((with_reducible refine wpl_storeR rfl 25 (.tmp 11) (.tmp 30) rfl rfl w1.heap.size 25 zeroM (rowM (head0 m false) (.slice none 0 0)) ?_ ?_ hatG (by kernel_rfl) ?_ ?_ ?_); rfl; rfl; rfl; (simp [rowM, Value.oneCell']); go_must (intro w3 hatG' hg; have hu_ := below_grown hu hg hu.size (by omega); have hatR_ := hatR.grown hg (by omega); clear hu hatR; have hu := hu_; have hatR := hatR_; clear hu_ hatR_ hg; clear hatG; have hatG := hatG'; clear hatG'; have LG3 := hatG.lt; have LR3 := hatR.lt; have TB := Nat.le_refl w3.heap.size))
    | (go_at_call 31; go_must (refine (PP.out w3).mono ?_; clear PP; rintro e u4 ⟨v4, rfl, hrow, hb⟩; have hbB := hb; have hd4 := hrow.reads; obtain ⟨p4, c4, rfl, _⟩ := id hd4; have B4 := Lib.hid (fun k (h : (Value.slice p4 (bytesOf 0 4 4).length c4).ownBlock = some k) => (hrow.lt k h)); clear hrow; have hu_ := hu.trans (hb.mono hu.size); have hatR_ := hatR.ext hb; have hatG_ := hatG.ext hb; clear hu hatR hatG; have hu := hu_; have hatR := hatR_; have hatG := hatG_; clear hu_ hatR_ hatG_ hb; rw [L4.out] at hd4 B4 ⊢))
    | ((with_reducible refine wpl_buildS rfl 23 1 #[(0, .tmp 40)] rfl #[(0, .agg (row (a268 0) (.slice p4 4 c4)).toArray)] ?_ 60 (flat [(a268 0, .slice p4 4 c4)]).toArray (build1 _ _) ?_); (simp [Act.eval, row, a268]); go_must (intro u5 hat5 hb hs; clear hs; have T5 := hbB.size; have hu_ := hu.trans (hb.mono hu.size); have hatR_ := hatR.ext hb; have hatG_ := hatG.ext hb; have hbB_ := hbB.trans (hb.mono hbB.size); have hd4_ := hd4.below hb; clear hu hatR hatG hbB hd4; have hu := hu_; have hatR := hatR_; have hatG := hatG_; have hbB := hbB_; have hd4 := hd4_; clear hu_ hatR_ hatG_ hbB_ hd4_ hb; have ho5 := ownL_of_at (B := w3.heap.size) [(a268 0, .slice p4 4 c4)] hat5 T5 (one_maxL _) (fun z hz => by rw [List.mem_singleton] at hz; subst hz; exact ⟨hd4, fun _ e => by have := (B4.out _ e).2; omega⟩); clear hat5 hd4; have ho5' : OwnL 60 w3.heap.size u5 (.slice (some ⟨u4.heap.size, 0, none⟩) 1 1) [a268 0] := ho5; clear ho5; have ho5 := ho5'; clear ho5'; have L5 := (ho5.lt u4.heap.size rfl).2))
    | (go_at_call 40; go_must (refine (PO.out u5).mono ?_; clear PO; rintro e u6 ⟨g6, d1, d2, rfl, hat6, hd1, hd2, hk1, hk2, hb⟩; have hu_ := hu.trans (hb.mono hu.size); have hatR_ := hatR.ext hb; have hatG_ := hatG.ext hb; have hbB_ := hbB.trans (hb.mono hbB.size); have ho5_ := ho5.below hb; clear hu hatR hatG hbB ho5; have hu := hu_; have hatR := hatR_; have hatG := hatG_; have hbB := hbB_; have ho5 := ho5_; clear hu_ hatR_ hatG_ hbB_ ho5_ hb; have T6 := hbB.size))
    | (at_builtin; have _t := ho5; clear _t; go_must (obtain ⟨i60, z60, i1, i2, i3, i4, i5⟩ := info41; refine wpl_appendL rfl (.tmp 41) (.tmp 44) 23 rfl w3.heap.size 60 40 i60 z60 Try.underlying23 i1 i2 i3 i4 i5 _ ⟨g6, 0, none⟩ 2 [a268 0] [(a264 h, d1), (a296 r, d2)] rfl rfl ho5 (fun j u hj => (by rw [add_none, Nat.zero_add, hat6.cell j]; exact flat_two _ _ _ _ hj)) (apart2 hd1 hd2 (fun k e => (by have := hk1 k e; omega)) (fun k e => (by have := hk2 k e; omega))) (by simp [maxLen]) (by simp) T6 ?_; clear i1 i2 i3 i4 i5; intro v7 u7 ho7 hg0; have hg : World.grownBy _ _ (some u4.heap.size) := hg0; clear hg0; have T45 := T5; have hu_ := below_grown hu hg hu.size (by omega); have hatR_ := hatR.grown hg (by omega); have hatG_ := hatG.grown hg (by omega); have hbB_ := below_grown hbB hg hbB.size (by omega); clear hu hatR hatG hbB; have hu := hu_; have hatR := hatR_; have hatG := hatG_; have hbB := hbB_; clear hu_ hatR_ hatG_ hbB_ hg; clear ho5 hat6 hd1 hd2 hk1 hk2; have ho7' : OwnL 60 w3.heap.size u7 v7 (ansL 0 h r) := ho7; clear ho7; obtain ⟨p7, c7, rfl, _, _⟩ := ho7'.reads.shape; rw [LA.out] at ho7' ⊢))
    | ((with_reducible refine wpl_storeC rfl 23 (.tmp 46) (.tmp 45) rfl rfl w1.heap.size 8 25 (rowM (head0 m false) (.slice none 0 0)) (rowM (head0 m false) (.slice p7 3 c7)) (.slice p7 3 c7) ?_ ?_ hatG ?_ (by kernel_rfl) ?_ ?_ ?_); rfl; rfl; exact (show (8 : Nat) < 9 by decide); rfl; rfl; go_must (intro u8 hatG8 hg; have ho8 := ho7'.kept hg LG3 hatG (noByteM _ _ _ _); have hu8 := below_grown hu hg hu.size (by omega); have T8 := hg.size; have T7 := hbB.size; have hatR8 := hatR.grown hg (by omega); clear hu hbB hatR hatG ho7' hg; have hu := hu8; have hatR := hatR8; have hatG := hatG8; clear hu8 hatR8 hatG8)))
  go_wp2_with fail
  have TB8 : w3.heap.size ≤ u8.heap.size := by omega
  obtain ⟨l3, hl3⟩ : ∃ l3, ansL 0 h r = l3 := ⟨_, rfl⟩
  have HL3 := Lib.hid hl3
  rw [hl3] at ho8 LA
  clear hl3
  have LG := hatG.lt
  go_loopw [49] (fun i wr => ∃ (k : Nat) (q : Option Addr) (cq : Nat), i = .int .i64 k ∧ k ≤ len ∧ Below w.heap.size w wr ∧ w3.heap.size ≤ wr.heap.size ∧ At wr w0.heap.size 25 zeroM ∧ At wr w1.heap.size 25 (rowM (head0 m false) (.slice q (3 + k) cq)) ∧ OwnL 60 w3.heap.size wr (.slice q (3 + k) cq) (l3 ++ more.take k)) (fun i _ => len - (intOf i).toNat)
  case atStart => exact ⟨0, p7, c7, rfl, by omega, hu, TB8, hatR, hatG, by rw [List.take_zero, List.append_nil]; exact ho8⟩
  case round =>
    clear hu hatR hatG ho8
    obtain ⟨k, q, cq, rfl, hk, hu, TB, hatR, hatG, hown⟩ := hrel
    by_cases hlt : k < len
    · have hel := (HM.out.below hu).elem k (by rw [HLEN.out]; exact hlt)
      rw [HLEN.out] at hel
      obtain ⟨x, hx1, hx2, b, off, c', pd, nd, hv, _, _, hltb, hra, hrd⟩ := hel
      cases hv
      have HX := Lib.hid hx1
      have HRA := Lib.hid hra
      have hdx := HD.out x hx2
      have hw := Below.refl wr.heap.size wr
      obtain ⟨acc, hacc⟩ : ∃ acc, l3 ++ more.take k = acc := ⟨_, rfl⟩
      rw [hacc] at hown
      have hal : acc.length = 3 + k := by rw [← hacc, List.length_append, LA.out, List.length_take, HLEN.out]; omega
      have HA := Lib.hid hacc
      have HAL := Lib.hid hal
      have K4 : acc.length + 1 ≤ maxLen := by simp [maxLen]; omega
      have K5 : (acc.length + 1) * 40 ≤ 140737488355328 := by omega
      have LGr := hatG.lt
      have LRr := hatR.lt
      have NK : 3 + k + 1 = 3 + (k + 1) := by omega
      clear hacc hx1 hra hal
      go_wp2_with (first
        | ((with_reducible refine wpl_loadE rfl 60 (.tmp 51) rfl b (off + k * 5) ?_ (row x (.slice pd x.data.length nd)).toArray _ HRA.out Try.underlying60 rfl (by kernel_rfl) ?_); rfl; clear HRA)
        | ((with_reducible refine wpl_allocAt rfl 60 rfl zeroRow (by kernel_rfl) ?_); go_must (intro x1 hata hb hs; clear hs; have hw_ := hw.trans (hb.mono hw.size); clear hw; have hw := hw_; clear hw_ hb; have La := hata.lt))
        | ((with_reducible refine wpl_storeR rfl 60 (.tmp 13) (.tmp 52) rfl rfl wr.heap.size 60 zeroRow (row x (.slice pd x.data.length nd)).toArray ?_ ?_ hata (by kernel_rfl) ?_ ?_ ?_); rfl; rfl; rfl; (simp [row, Value.oneCell']); go_must (intro x2 hata2 hg; have hw_ := below_grown hw hg hw.size (Nat.le_refl _); clear hw; have hw := hw_; clear hw_ hg; clear hata; have hata := hata2; clear hata2; have La2 := hata.lt; have c4 := hata.cell 4; simp [row] at c4))
        | (go_at_call 37; go_must (refine (clone _ _ _ (hrd.below hw) (by omega)).mono ?_; rintro e x3 ⟨v9, rfl, hv9, hb⟩; have T3 := hw.size; have hw_ := hw.trans (hb.mono hw.size); have hata_ := hata.ext hb; clear hw hata; have hw := hw_; have hata := hata_; clear hw_ hata_ hb; clear c4; obtain ⟨p9, c9, rfl, _⟩ := hv9.reads))
        | ((with_reducible refine wpl_storeC rfl 26 (.tmp 56) (.tmp 55) rfl rfl wr.heap.size 4 60 (row x (.slice pd x.data.length nd)).toArray (row x (.slice p9 x.data.length c9)).toArray (.slice p9 x.data.length c9) ?_ ?_ hata ?_ (by kernel_rfl) ?_ ?_ ?_); rfl; rfl; exact (show (4 : Nat) < 5 by decide); rfl; rfl; go_must (intro x4 hata4 hg; have hd9 := reads_grown hv9.reads hg (fun h0 z hz e => (by obtain ⟨g', e1, _, e2, _⟩ := hv9.form h0; rw [e1] at e; have e3 : g' = z := Option.some.inj e; have e4 : wr.heap.size = z := Option.some.inj hz; omega)); have hap : Apart (.slice q (3 + k) cq) (x, .slice p9 x.data.length c9) := (fun h0 z hz e => (by obtain ⟨g', e1, _, e2, _⟩ := hv9.form h0; have h1 := (hown.lt z hz).2; rw [show (x, Value.slice p9 x.data.length c9).2 = .slice p9 x.data.length c9 from rfl, e1] at e; have e3 : g' = z := Option.some.inj e; omega)); have hw_ := below_grown hw hg hw.size (Nat.le_refl _); clear hw; have hw := hw_; clear hw_ hg; clear hata hv9; have c8 := (hatG.ext hw).cell 8; simp [rowM] at c8))
        | ((with_reducible refine wpl_loadAt rfl 60 (.tmp 13) rfl wr.heap.size 60 (row x (.slice p9 x.data.length c9)).toArray hata4 _ Try.underlying60 rfl (by kernel_rfl) ?_ ?_); rfl)
        | (obtain ⟨i60, z60, i1, i2, i3, i4, i5⟩ := info41; (with_reducible refine wpl_push 23 60 40 60 (.tmp 59) (.tmp 58) rfl rfl rfl rfl rfl x (.slice p9 x.data.length c9) ?_ (build22 _ _) w3.heap.size i60 z60 Try.underlying23 i1 i2 i3 i4 i5 (.slice q (3 + k) cq) acc ?_ ?_ (hown.below hw) hd9 hap K4 K5 ?_ ?_); rfl; exact fun _ => rfl; exact fun _ => rfl; (have := hw.size; omega); go_must (clear i1 i2 i3 i4 i5 c8; intro v6 x6 hv6 hg; have hux := hu.trans (hw.mono hu.size); have hlo : ∀ z, (Value.slice q (3 + k) cq).ownBlock = some z → w3.heap.size ≤ z := (fun z e => (hown.lt z e).1); have hux6 := hux.grown hg hux.size (fun z e => (by have := hlo z e; omega)); have hatG6 := atGrownR (hatG.ext hw) hg (fun z e => (by have := hlo z e; omega)); have hatR6 := atGrownR (hatR.ext hw) hg (fun z e => (by have := hlo z e; omega)); have T6 := hg.size; have T5 := hw.size; obtain ⟨p6, c6, rfl, _, _⟩ := hv6.reads.shape; rw [List.length_append, HAL.out, show [x].length = 1 from rfl, NK] at hv6 ⊢; clear hg hlo hux))
        | ((with_reducible refine wpl_storeC rfl 23 (.tmp 62) (.tmp 61) rfl rfl w1.heap.size 8 25 (rowM (head0 m false) (.slice q (3 + k) cq)) (rowM (head0 m false) (.slice p6 (3 + (k + 1)) c6)) (.slice p6 (3 + (k + 1)) c6) ?_ ?_ hatG6 ?_ (by kernel_rfl) ?_ ?_ ?_); rfl; rfl; exact (show (8 : Nat) < 9 by decide); rfl; rfl; go_must (intro x7 hatG7 hg; have hown7 := hv6.kept hg LG3 hatG6 (noByteM _ _ _ _); have hu7 := below_grown hux6 hg hux6.size (by omega); have hatR7 := hatR6.grown hg (by omega); have T7 := hg.size)))
      go_roundw
      case rel =>
        have hk2 : k < more.length := by rw [HLEN.out]; exact hlt
        have hnew : l3 ++ more.take (k + 1) = acc ++ [x] := by
          rw [List.take_succ_eq_append_getElem hk2, ← List.append_assoc, HA.out]
          have := HX.out
          rw [List.getElem?_eq_getElem hk2] at this
          rw [Option.some.inj this]
        exact ⟨k + 1, _, _, by go_num, by omega, hu7, by omega, hatR7, hatG7, by rw [hnew]; exact hown7⟩
      case measure => simp [intOf]; omega
    · obtain rfl : k = len := by omega
      have htk : more.take k = more := List.take_of_length_le (by rw [HLEN.out]; omega)
      rw [htk] at hown
      clear htk
      have LRr := hatR.lt
      go_wp2_with (first
        | ((with_reducible refine wpl_loadAt rfl 25 (.tmp 11) rfl w1.heap.size 25 (rowM (head0 m false) (.slice q (3 + k) cq)) hatG _ Try.underlying25 rfl (by kernel_rfl) ?_ ?_); rfl)
        | ((with_reducible refine wpl_storeR rfl 25 (.tmp 10) (.tmp 64) rfl rfl w0.heap.size 25 zeroM (rowM (head0 m false) (.slice q (3 + k) cq)) ?_ ?_ hatR (by kernel_rfl) ?_ ?_ ?_); rfl; rfl; rfl; (simp [rowM, Value.oneCell']); go_must (intro xz hatz hg; have hownz := hown.kept hg (by omega) hatR noByteZ; have huz := below_grown hu hg hu.size (by omega))))
      exact end_cell (fn := Try.f22) (p := 10) (ty := 25) (by kernel_rfl) rfl hatz Try.underlying25 rfl (by kernel_rfl) rfl ⟨_, _, _, rfl, (show OwnL 60 w.heap.size xz _ (ansL 0 h r ++ more) by rw [HL3.out]; exact hownz.mono (by omega)), huz⟩
theorem msgAnswer (m : M) (p : Option Addr) (c : Nat) (code : Int) (h r : ByteArray) (vm : Value) (more : List A) (w : World) (hh : h.size ≤ maxLen) (hr : r.size ≤ maxLen) (hm : ReadsL w vm more) (hn : more.length ≤ 100) (hd : ∀ a ∈ more, a.data.length ≤ 140737488355300) (hi : -9223372036854775808 ≤ code ∧ code ≤ 9223372036854775807) :
    Calls Try.prog 22 #[.agg (rowM m (.slice p m.avps.length c)), .int .i64 code, .string h, .string r, vm] w (OwnIs w (ansOf m code h r more)) := by
  unfold ansOf clampN
  by_cases h0 : code < 0
  · rw [decide_eq_false (by omega), if_neg (by omega)]; exact ans_0 m p c code h r vm more w hh hr hm hn hd h0 hi
  by_cases h1 : code < 3000
  · rw [decide_eq_false (by omega), if_pos (by omega)]; exact ans_1 m p c code h r vm more w hh hr hm hn hd (by omega) hi
  by_cases h2 : code ≤ 3999
  · rw [decide_eq_true (by omega), if_pos (by omega)]; exact ans_2 m p c code h r vm more w hh hr hm hn hd (by omega) hi
  by_cases h3 : code ≤ 4294967295
  · rw [decide_eq_false (by omega), if_pos (by omega)]; exact ans_3 m p c code h r vm more w hh hr hm hn hd (by omega) hi
  · rw [decide_eq_false (by omega), if_neg (by omega)]; exact ans_4 m p c code h r vm more w hh hr hm hn hd (by omega) hi
end Go.Proofs.Ytcekkppjalipfaa.Avp
