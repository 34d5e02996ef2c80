/-
  Contract: the reference's Answer. (Printed by gen_rans.py.)
-/
import Derived.Test.YtcekkppjalipfaaAns1
import Derived.Test.YtcekkppjalipfaaMonoT
namespace Go.Proofs.Ytcekkppjalipfaa.Avp
open Go.RowKit Mem Cells Avps Wire Ops
set_option linter.unusedVariables false
set_option linter.unusedSimpArgs false

def rowQ (a : A) : Mono.Prp := ⟨fun v u => ∃ p c, v = .agg (row a (.slice p a.data.length c)).toArray ∧ Reads .u8 u (.slice p a.data.length c) a.data, fun _ _ _ ⟨p, c, h1, h2⟩ hb => ⟨p, c, h1, h2.below hb⟩⟩
def listP (al : List A) : Mono.Prp := ⟨fun v u => ReadsL u v al, fun _ _ _ h hb => h.below hb⟩
def ownP (B : Nat) (al : List A) : Mono.Prp := ⟨fun v u => OwnL 60 B u v al, fun _ _ _ h hb => h.below hb⟩
section
variable {w : World} {o : Oper} {a : Act} {R : Mono.Prp} {Q : Exit → Act → World → Prop}
theorem ok_list1 (x : Operand) (ho : o.op = .buildSlice 23 1 #[(0, x)]) (a1 : A) (d : Value) (hx : a.eval x = .agg (row a1 d).toArray) (hd : Reads .u8 w d a1.data) (h : ∀ w' v, ReadsL w' v [a1] → R.R v w') : o.wp Try.prog a w (Mono.Post o a w R) Q := by
  have hp : (#[(0, x)] : Array (Nat × Operand)).map (fun (i, x) => (i, a.eval x)) = #[(0, .agg (row a1 d).toArray)] := by simp [hx]
  unfold Oper.wp execOp
  simp only [ho, hp, Sem.run_bind, build1 a1 d w, Result.andThen_ok]
  have hb := (Below.refl w.heap.size w).alloc (Nat.le_refl _) (.cells (flat [(a1, d)]).toArray 60)
  refine ⟨_, rfl, hb, h _ _ (ownL_of_at (B := 0) [(a1, d)] (At.new w 60 _) (Nat.zero_le _) (one_maxL _) (fun z hz => ?_)).reads⟩
  rw [List.mem_singleton] at hz
  subst hz
  refine ⟨hd.below hb, fun h0 e => ?_⟩
  obtain ⟨k, hk1, hk2⟩ := reads_lt hd h0
  rw [hk1] at e
  cases e
  exact absurd hk2 (Nat.lt_irrefl _)
theorem ok_append_nil (s x : Operand) (ho : o.op = .call { callee := .builtin .append, args := #[s, x], argTypes := #[23, 23] }) (a1 : A) (v : Value) (hs : a.eval s = .slice none 0 0) (hx : a.eval x = v) (hr : ReadsL w v [a1])
    (h : ∀ v' w', OwnL 60 w.heap.size w' v' [a1] → Below w.heap.size w w' → R.R v' w') : o.wp Try.prog a w (Mono.Post o a w R) Q := by
  obtain ⟨i60, z60, i1, i2, i3, i4, i5⟩ := info41
  obtain ⟨p, c, zs, rfl, h1, h2, h3, h4, h5, h6⟩ := hr
  obtain ⟨b, off, rfl, hlt, hc⟩ := h6 (by simp)
  have hzl : zs.length = 1 := by have := congrArg List.length h4; simpa using this
  obtain ⟨v', w', hrun, k2, k3, k4⟩ := run_append_own (P := Try.prog) w w.heap.size 23 o.type 60 i60 z60 5 40 Try.underlying23 i1 i2 i3 i4 i5 (by omega) (.slice none 0 0) 0 [] (World.ownsRow_nil _ _ _ _) ⟨b, off, none⟩ 1 c (flat zs) (by rw [flat_length, hzl])
    (fun j u hj => by rw [add_none, hc j (by have := (List.getElem?_eq_some_iff.1 hj).1; rw [flat_length, hzl] at this; simpa using this)]; exact hj) (flat_one' h5) (by simp [maxLen]) (by omega) (Nat.le_refl _)
  have hb : Below w.heap.size w w' := (Below.refl _ _).grown k3 (Nat.le_refl _) (fun q e => by cases e)
  unfold Oper.wp execOp
  simp only [ho, resolve, invoke, builtin, Sem.run_bind, Sem.run_pure, Result.andThen_ok, List.map_toArray, List.map_cons, List.map_nil, hs, hx]
  rw [show [a1].length = 1 from rfl, hrun]
  simp only [Result.andThen_ok]
  refine ⟨_, rfl, hb, h _ _ ⟨zs, h4, fun z hz => ⟨(h5 z hz).below hb, fun h0 q hq e => ?_⟩, ?_⟩ hb⟩
  · obtain ⟨k, hk1, hk2⟩ := reads_lt (h5 z hz) h0
    have := (World.ownsRow.lt k2 q hq).1
    rw [hk1] at e
    cases e
    omega
  · simpa using k2
end
set_option maxRecDepth 100000 in
set_option maxHeartbeats 1600000 in
theorem rans_0 (m : M) (p : Option Addr) (c : Nat) (code : Int) (h r : ByteArray) (vm : Value) (more : List A) (w : World) (hh : h.size ≤ maxLen) (hr : r.size ≤ maxLen) (hm : ReadsL w vm more) (hn : more.length ≤ 100) (hc : code < 0) (hi : -9223372036854775808 ≤ code ∧ code ≤ 9223372036854775807) :
    Calls Try.prog 23 #[.agg (rowM m (.slice p m.avps.length c)), .int .i64 code, .string h, .string r, vm] w (OwnIs w { head0 m false with avps := ansL (0) h r ++ more }) := by
  have hone : (Value.slice p m.avps.length c).oneCell' = true := rfl
  have hnb : 0 ≤ 0 ∧ 0 ≤ (4294967295 : Int) := by omega
  have PP := Lib.hid (fun u => by have := refPut (.slice none 0 0) [] (0) 4 u (by omega) Reads.sub0 (by simp); rw [show putted [] (0) 4 = bytesOf (0) 4 4 from by rw [putted4]; rfl] at this; exact this)
  have s64 : IntKind.u64.wrap 0 = 0 := by rw [IntKind.wrap_u64]; omega
  have HM := Lib.hid hm
  obtain ⟨len, hlen⟩ : ∃ len, more.length = len := ⟨_, rfl⟩
  have HLEN := Lib.hid hlen
  rw [hlen] at hn
  obtain ⟨l4, hl4⟩ : ∃ l4, (([a268 0] ++ [a264 h] ++ [a296 r]) ++ more).length = l4 := ⟨_, rfl⟩
  have LB4 := Lib.hid hl4
  have LB2 := Lib.hid (show ([a268 0] ++ [a264 h]).length = 2 from rfl)
  have LB3 := Lib.hid (show ([a268 0] ++ [a264 h] ++ [a296 r]).length = 3 from rfl)
  have LA1 : [a268 0].length = 1 := rfl
  have LA2 : ([a268 0] ++ [a264 h]).length = 2 := rfl
  obtain ⟨n1, hn1⟩ : ∃ n, (bs h).length = n := ⟨_, rfl⟩
  obtain ⟨n2, hn2⟩ : ∃ n, (bs r).length = n := ⟨_, rfl⟩
  have N1 := Lib.hid hn1
  have N2 := Lib.hid hn2
  have S1 := Lib.hid (rfl : w = w)
  have S2 := Lib.hid (rfl : w = w)
  have S3 := Lib.hid (rfl : w = w)
  have S4 := Lib.hid (rfl : w = w)
  have S5 := Lib.hid (rfl : w = w)
  have S6 := Lib.hid (rfl : w = w)
  have S7 := Lib.hid (rfl : w = w)
  have S8 := Lib.hid (rfl : w = w)
  have S9 := Lib.hid (rfl : w = w)
  clear hm hlen hl4 hn1 hn2
  go_enter Try.func23, Try.ntmps23
  go_upto_region 5 with (first
    | ((with_reducible refine wpl_boxAt rfl 25 (.tmp 0) rfl (rowM m (.slice p m.avps.length c)) ?_ ?_); rfl; go_must (intro w0 hat0 hu hs; clear hs; have c1 := hat0.cell 1; have c4 := hat0.cell 4; have c5 := hat0.cell 5; have c6 := hat0.cell 6; have c7 := hat0.cell 7; simp [rowM] at c1 c4 c5 c6 c7; have L0 := hat0.lt))
    | ((with_reducible refine wpl_allocAt rfl 25 rfl zeroM (by kernel_rfl) ?_); have _t := S1; clear _t; go_must (intro w1 hatR hb hs; clear hs S1; have hu_ := hu.trans (hb.mono hu.size); have hat0_ := hat0.ext hb; clear hu hat0; have hu := hu_; have hat0 := hat0_; clear hu_ hat0_ hb; clear c1 c4 c5 c6 c7; have c1 := hat0.cell 1; have c4 := hat0.cell 4; have c5 := hat0.cell 5; have c6 := hat0.cell 6; have c7 := hat0.cell 7; simp [rowM] at c1 c4 c5 c6 c7; have LR := hatR.lt))
    | ((with_reducible refine wpl_allocAt rfl 25 rfl zeroM (by kernel_rfl) ?_); have _t := S2; clear _t; go_must (intro w2 hatG hb hs; clear hs S2 c1 c4 c5 c6 c7; have Tw2_0 := hu.size; have Tw2_1 := hat0.lt; have Tw2_2 := hatR.lt; have hu_ := hu.trans (hb.mono hu.size); have hat0_ := hat0.ext hb; have hatR_ := hatR.ext hb; clear hu hat0 hatR; have hu := hu_; have hat0 := hat0_; have hatR := hatR_; clear hu_ hat0_ hatR_ hb; clear hat0; have LG := hatG.lt))
    | ((with_reducible refine wpl_storeR rfl 25 (.tmp 12) (.tmp 37) rfl rfl w1.heap.size 25 zeroM (rowM (head0 m false) (.slice none 0 0)) ?_ ?_ hatG (by kernel_rfl) ?_ ?_ ?_); rfl; rfl; rfl; (simp [rowM, Value.oneCell']); go_must (intro w3 hatG' hg; have hu_ := below_grown hu hg hu.size (by omega); have hatR_ := hatR.grown hg (by omega); clear hu hatR; have hu := hu_; have hatR := hatR_; clear hu_ hatR_ hg; clear hatG; have hatG := hatG'; clear hatG'; have LG3 := hatG.lt; have LR3 := hatR.lt)))
  have hu0 := hu
  have c8 := hatG.cell 8
  simp [rowM] at c8
  clear LA1 LA2
  refine Mono.wp_region_monoT 8 [some 38, some 39, some 40, some 41, some 42, some 43, some 44, some 45] [Mono.isV (.pointer (some ⟨w1.heap.size, 8, none⟩)), Mono.isV (.slice none 0 0), Mono.isV (.int .u64 0), readsP .u8 (bytesOf 0 4 4), rowQ (a268 0), listP [a268 0], ownP w3.heap.size [a268 0], Mono.isV (.pointer (some ⟨w1.heap.size, 8, none⟩))] (by kernel_rfl) (by kernel_rfl) ?_ ?_
  · simp only [Mono.OpGoals, List.take_succ_cons, List.take_zero, and_true]
    refine ⟨?_, ?_, ?_, ?_, ?_, ?_, ?_, ?_⟩
    · intro a u hbu hsu hdu
      have cu := (hbu.cell (p := ⟨w1.heap.size, 8, none⟩) LG3).trans c8
      refine Mono.if_want rfl ?_
      have z12 : a.eval (.tmp 12) = .pointer (some ⟨w1.heap.size, 0, none⟩) := hsu 12 (by decide)
      simp [Act.eval] at z12
      exact Mono.ok_val (.pointer (some ⟨w1.heap.size, 8, none⟩)) (by simp [execOp, z12, go_sem, cu]) rfl
    · intro a u hbu hsu hdu
      have cu := (hbu.cell (p := ⟨w1.heap.size, 8, none⟩) LG3).trans c8
      refine Mono.if_want rfl ?_
      have z38 : a.eval (.tmp 38) = .pointer (some ⟨w1.heap.size, 8, none⟩) := Mono.dep_at hdu (i := 0) (d := 38) rfl rfl rfl
      simp [Act.eval] at z38
      exact Mono.ok_val (.slice none 0 0) (by simp [execOp, z38, go_sem, cu]) rfl
    · intro a u hbu hsu hdu
      have cu := (hbu.cell (p := ⟨w1.heap.size, 8, none⟩) LG3).trans c8
      refine Mono.if_want rfl ?_
      exact Mono.ok_move (.tmp 11) rfl (hsu 11 (by decide))
    · intro a u hbu hsu hdu
      have cu := (hbu.cell (p := ⟨w1.heap.size, 8, none⟩) LG3).trans c8
      refine Mono.if_want rfl ?_
      have z40 : a.eval (.tmp 40) = .int .u64 0 := Mono.dep_at hdu (i := 2) (d := 40) rfl rfl rfl
      simp [Act.eval] at z40
      refine Mono.ok_call 14 _ _ rfl #[.slice none 0 0, .int .u64 0, .int .i64 4] (by simp [execOp, z40, go_sem]) ((PP.out u).mono ?_)
      rintro e u1 ⟨v1, rfl, hv1, hb1⟩
      exact ⟨_, rfl, hb1, hv1.reads⟩
    · intro a u hbu hsu hdu
      have cu := (hbu.cell (p := ⟨w1.heap.size, 8, none⟩) LG3).trans c8
      refine Mono.if_want rfl ?_
      have q41 : Reads .u8 u (a.eval (.tmp 41)) (bytesOf 0 4 4) := Mono.dep_at hdu (i := 3) (d := 41) rfl rfl rfl
      have r41 := q41
      obtain ⟨q, s, z41, _⟩ := q41
      rw [z41] at r41
      exact Mono.ok_build 60 _ rfl #[(0, .int .u32 268), (2, .bool true), (4, .slice q (bytesOf 0 4 4).length s)] (by simp [Act.eval] at z41; simp [z41, Act.eval]) (.agg (row (a268 0) (.slice q (bytesOf 0 4 4).length s)).toArray) (by kernel_rfl) ⟨_, _, rfl, r41⟩
    · intro a u hbu hsu hdu
      have cu := (hbu.cell (p := ⟨w1.heap.size, 8, none⟩) LG3).trans c8
      refine Mono.if_want rfl ?_
      obtain ⟨q, s, z42, r42⟩ := Mono.dep_at hdu (i := 4) (d := 42) rfl rfl rfl
      exact ok_list1 (.tmp 42) rfl (a268 0) _ z42 r42 (fun _ _ h => h)
    · intro a u hbu hsu hdu
      have cu := (hbu.cell (p := ⟨w1.heap.size, 8, none⟩) LG3).trans c8
      refine Mono.if_want rfl ?_
      exact ok_append_nil (.tmp 39) (.tmp 43) rfl (a268 0) _ (Mono.dep_at hdu (i := 1) (d := 39) rfl rfl rfl) rfl (Mono.dep_at hdu (i := 5) (d := 43) rfl rfl rfl) (fun _ _ h _ => h.mono hbu.size)
    · intro a u hbu hsu hdu
      have cu := (hbu.cell (p := ⟨w1.heap.size, 8, none⟩) LG3).trans c8
      refine Mono.if_want rfl ?_
      have z12 : a.eval (.tmp 12) = .pointer (some ⟨w1.heap.size, 0, none⟩) := hsu 12 (by decide)
      simp [Act.eval] at z12
      exact Mono.ok_val (.pointer (some ⟨w1.heap.size, 8, none⟩)) (by simp [execOp, z12, go_sem, cu]) rfl
  intro u hu
  simp only [Mono.Fin]
  rintro _ rfl _ rfl _ rfl v41 h41 v42 h42 v43 h43 v44 h44 _ rfl
  have hown0 : OwnL 60 w3.heap.size u v44 [a268 0] := h44
  obtain ⟨pa, ca, rfl, _, _⟩ := hown0.reads.shape
  have hu' := hu0.trans (hu.mono hu0.size)
  have TW : w.heap.size ≤ w3.heap.size := hu0.size
  have TU := hu.size
  have hatR' := hatR.ext hu
  have hatG' := hatG.ext hu
  clear hu hu0 hatR hatG c8 h41 h42 h43 h44
  have hu := hu'
  have hatR := hatR'
  have hatG := hatG'
  clear hu' hatR' hatG'
  have LA1 : [a268 0].length = 1 := rfl
  have LA2 : ([a268 0] ++ [a264 h]).length = 2 := rfl
  rw [LA1] at hown0 ⊢
  simp [Act.put]
  go_wp2_with (first
    | ((with_reducible refine wpl_storeC rfl 23 (.tmp 45) (.tmp 44) rfl rfl w1.heap.size 8 25 (rowM (head0 m false) (.slice none 0 0)) (rowM (head0 m false) (.slice pa 1 ca)) (.slice pa 1 ca) ?_ ?_ hatG ?_ (by kernel_rfl) ?_ ?_ ?_); have _t := S3; clear _t; rfl; rfl; exact (show (8 : Nat) < 9 by decide); rfl; rfl; go_must (clear S3; intro y1 hatG' hg; have hown' := hown0.kept hg LG3 hatG (noByteM _ _ _ _); have TZy1 := hg.size; have hu_ := below_grown hu hg hu.size (by omega); have hatR_ := hatR.grown hg (by omega); clear hu hatR; have hu := hu_; have hatR := hatR_; clear hu_ hatR_ hg; clear hatG hown0; have hatG := hatG'; have hown := hown'; clear hatG' hown'; have c8 := hatG.cell 8; simp [rowM] at c8))
    | ((with_reducible refine wpl_bytesS rfl 9 26 (.tmp 48) rfl h 5 Try.underlying9 Try.underlying26 Try.underlying5 ?_ hh ?_); rfl; go_must (intro cb y2 hd2 hb hs; clear hs; have TP := hb.size; have TO := hu.size; have LO := Lib.hid hown.lt; rw [N1.out] at hd2 ⊢; have hu_ := hu.trans (hb.mono hu.size); have hatR_ := hatR.ext hb; have hatG_ := hatG.ext hb; have hown_ := hown.below hb; clear hu hatR hatG hown; have hu := hu_; have hatR := hatR_; have hatG := hatG_; have hown := hown_; clear hu_ hatR_ hatG_ hown_ hb))
    | (obtain ⟨i60, z60, i1, i2, i3, i4, i5⟩ := info41; (with_reducible refine wpl_push 23 60 40 51 (.tmp 50) (.tmp 47) rfl rfl rfl rfl rfl (a264 h) (.slice (some ⟨y1.heap.size, 0, none⟩) n1 cb) ?_ (build22 _ _) w3.heap.size i60 z60 Try.underlying23 i1 i2 i3 i4 i5 (.slice pa 1 ca) [a268 0] ?_ ?_ hown ?_ ?_ ?_ ?_ ?_ ?_); have _t := S4; clear _t; rfl; exact (fun _ => rfl); exact (fun _ => rfl); exact hd2; go_must (exact (fun h0 z hz e => (by have h1 := (LO.out z hz).2; have h2 := (fun z (e : (Value.slice (some (⟨y1.heap.size, 0, none⟩ : Addr)) n1 cb).ownBlock = some z) => (Option.some.inj e : y1.heap.size = z)) z e; omega))); (simp [maxLen, LA1, LA2]); (simp [LA1, LA2]); omega; go_must (clear i1 i2 i3 i4 i5 LO; intro v6 y3 hv6 hg; have hlo : ∀ z, (Value.ownBlock (.slice pa 1 ca)) = some z → w3.heap.size ≤ z := (fun z e => (hown.lt z e).1); have T6 := hg.size; have hux6 := hu.grown hg hu.size (fun z e => (by have := hlo z e; omega)); have hatG6 := atGrownR hatG hg (fun z e => (by have := hlo z e; omega)); have hatR6 := atGrownR hatR hg (fun z e => (by have := hlo z e; omega)); obtain ⟨pb, cc, rfl, _, _⟩ := hv6.reads.shape; clear hg hlo hu hatG hatR hown c8; have hu := hux6; have hatG := hatG6; have hatR := hatR6; clear hux6 hatG6 hatR6; rw [LB2.out] at hv6 ⊢))
    | ((with_reducible refine wpl_storeC rfl 23 (.tmp 53) (.tmp 52) rfl rfl w1.heap.size 8 25 (rowM (head0 m false) (.slice pa 1 ca)) (rowM (head0 m false) (.slice pb 2 cc)) (.slice pb 2 cc) ?_ ?_ hatG ?_ (by kernel_rfl) ?_ ?_ ?_); have _t := S5; clear _t; rfl; rfl; exact (show (8 : Nat) < 9 by decide); rfl; rfl; go_must (clear S5; intro y4 hatG' hg; have hown' := hv6.kept hg LG3 hatG (noByteM _ _ _ _); have TZy4 := hg.size; have hu_ := below_grown hu hg hu.size (by omega); have hatR_ := hatR.grown hg (by omega); clear hu hatR; have hu := hu_; have hatR := hatR_; clear hu_ hatR_ hg; clear hatG hv6; have hatG := hatG'; have hown := hown'; clear hatG' hown'; have c8 := hatG.cell 8; simp [rowM] at c8))
    | ((with_reducible refine wpl_bytesS rfl 9 26 (.tmp 56) rfl r 5 Try.underlying9 Try.underlying26 Try.underlying5 ?_ hr ?_); rfl; go_must (intro cd y5 hd5 hb hs; clear hs; have TP := hb.size; have TO := hu.size; have LO := Lib.hid hown.lt; rw [N2.out] at hd5 ⊢; have hu_ := hu.trans (hb.mono hu.size); have hatR_ := hatR.ext hb; have hatG_ := hatG.ext hb; have hown_ := hown.below hb; clear hu hatR hatG hown; have hu := hu_; have hatR := hatR_; have hatG := hatG_; have hown := hown_; clear hu_ hatR_ hatG_ hown_ hb))
    | (obtain ⟨i60, z60, i1, i2, i3, i4, i5⟩ := info41; (with_reducible refine wpl_push 23 60 40 59 (.tmp 58) (.tmp 55) rfl rfl rfl rfl rfl (a296 r) (.slice (some ⟨y4.heap.size, 0, none⟩) n2 cd) ?_ (build22 _ _) w3.heap.size i60 z60 Try.underlying23 i1 i2 i3 i4 i5 (.slice pb 2 cc) ([a268 0] ++ [a264 h]) ?_ ?_ hown ?_ ?_ ?_ ?_ ?_ ?_); have _t := S6; clear _t; rfl; exact (fun _ => rfl); exact (fun _ => rfl); exact hd5; go_must (exact (fun h0 z hz e => (by have h1 := (LO.out z hz).2; have h2 := (fun z (e : (Value.slice (some (⟨y4.heap.size, 0, none⟩ : Addr)) n2 cd).ownBlock = some z) => (Option.some.inj e : y4.heap.size = z)) z e; omega))); (simp [maxLen, LA1, LA2]); (simp [LA1, LA2]); omega; go_must (clear i1 i2 i3 i4 i5 LO; intro v6 y6 hv6 hg; have hlo : ∀ z, (Value.ownBlock (.slice pb 2 cc)) = some z → w3.heap.size ≤ z := (fun z e => (hown.lt z e).1); have T6 := hg.size; have hux6 := hu.grown hg hu.size (fun z e => (by have := hlo z e; omega)); have hatG6 := atGrownR hatG hg (fun z e => (by have := hlo z e; omega)); have hatR6 := atGrownR hatR hg (fun z e => (by have := hlo z e; omega)); obtain ⟨pc, ce, rfl, _, _⟩ := hv6.reads.shape; clear hg hlo hu hatG hatR hown c8; have hu := hux6; have hatG := hatG6; have hatR := hatR6; clear hux6 hatG6 hatR6; rw [LB3.out] at hv6 ⊢))
    | ((with_reducible refine wpl_storeC rfl 23 (.tmp 61) (.tmp 60) rfl rfl w1.heap.size 8 25 (rowM (head0 m false) (.slice pb 2 cc)) (rowM (head0 m false) (.slice pc 3 ce)) (.slice pc 3 ce) ?_ ?_ hatG ?_ (by kernel_rfl) ?_ ?_ ?_); have _t := S7; clear _t; rfl; rfl; exact (show (8 : Nat) < 9 by decide); rfl; rfl; go_must (clear S7; intro y7 hatG' hg; have hown' := hv6.kept hg LG3 hatG (noByteM _ _ _ _); have TZy7 := hg.size; have hu_ := below_grown hu hg hu.size (by omega); have hatR_ := hatR.grown hg (by omega); clear hu hatR; have hu := hu_; have hatR := hatR_; clear hu_ hatR_ hg; clear hatG hv6; have hatG := hatG'; have hown := hown'; clear hatG' hown'; have c8 := hatG.cell 8; simp [rowM] at c8))
    | (at_builtin; have _t := S8; clear _t; go_must (obtain ⟨i60, z60, i1, i2, i3, i4, i5⟩ := info41; refine wpl_appendRL rfl (.tmp 63) (.tmp 64) 23 rfl w3.heap.size 60 40 i60 z60 Try.underlying23 i1 i2 i3 i4 i5 _ _ ([a268 0] ++ [a264 h] ++ [a296 r]) more w rfl rfl hown HM.out hu TW ?_ ?_ ?_ ?_; (simp [maxLen, HLEN.out]; omega); (simp [HLEN.out]; omega); (have := hown; omega); clear i1 i2 i3 i4 i5 S8; intro v8 y8 hv6 hg; have hlo : ∀ z, (Value.slice pc 3 ce).ownBlock = some z → w3.heap.size ≤ z := (fun z e => (hown.lt z e).1); have T8 := hg.size; have hux6 := hu.grown hg hu.size (fun z e => (by have := hlo z e; omega)); have hatG6 := atGrownR hatG hg (fun z e => (by have := hlo z e; omega)); have hatR6 := atGrownR hatR hg (fun z e => (by have := hlo z e; omega)); obtain ⟨pd, cf, rfl, _, _⟩ := hv6.reads.shape; clear hg hlo hu hatG hatR hown c8; have hu := hux6; have hatG := hatG6; have hatR := hatR6; clear hux6 hatG6 hatR6; rw [LB4.out] at hv6 ⊢))
    | ((with_reducible refine wpl_storeC rfl 23 (.tmp 66) (.tmp 65) rfl rfl w1.heap.size 8 25 (rowM (head0 m false) (.slice pc 3 ce)) (rowM (head0 m false) (.slice pd l4 cf)) (.slice pd l4 cf) ?_ ?_ hatG ?_ (by kernel_rfl) ?_ ?_ ?_); have _t := S9; clear _t; rfl; rfl; exact (show (8 : Nat) < 9 by decide); rfl; rfl; go_must (clear S9; intro y9 hatG' hg; have hown' := hv6.kept hg LG3 hatG (noByteM _ _ _ _); have TZy9 := hg.size; have hu_ := below_grown hu hg hu.size (by omega); have hatR_ := hatR.grown hg (by omega); clear hu hatR; have hu := hu_; have hatR := hatR_; clear hu_ hatR_ hg; clear hatG hv6; have hatG := hatG'; have hown := hown'; clear hatG' hown'; skip))
    | ((with_reducible refine wpl_loadAt rfl 25 (.tmp 12) rfl w1.heap.size 25 (rowM (head0 m false) (.slice pd l4 cf)) hatG _ Try.underlying25 rfl (by kernel_rfl) ?_ ?_); rfl)
    | ((with_reducible refine wpl_storeR rfl 25 (.tmp 10) (.tmp 67) rfl rfl w0.heap.size 25 zeroM (rowM (head0 m false) (.slice pd l4 cf)) ?_ ?_ hatR (by kernel_rfl) ?_ ?_ ?_); rfl; rfl; rfl; (simp [rowM, Value.oneCell']); go_must (intro xz hatz hg; have hownz := hown.kept hg LR3 hatR noByteZ; have huz := below_grown hu hg hu.size (by omega))))
  exact end_cell (fn := Try.f23) (p := 10) (ty := 25) (by kernel_rfl) rfl hatz Try.underlying25 rfl (by kernel_rfl) rfl ⟨_, _, _, rfl, hownz.mono (by omega), huz⟩
set_option maxRecDepth 100000 in
set_option maxHeartbeats 1600000 in
theorem rans_1 (m : M) (p : Option Addr) (c : Nat) (code : Int) (h r : ByteArray) (vm : Value) (more : List A) (w : World) (hh : h.size ≤ maxLen) (hr : r.size ≤ maxLen) (hm : ReadsL w vm more) (hn : more.length ≤ 100) (hc : 0 ≤ code ∧ code < 3000) (hi : -9223372036854775808 ≤ code ∧ code ≤ 9223372036854775807) :
    Calls Try.prog 23 #[.agg (rowM m (.slice p m.avps.length c)), .int .i64 code, .string h, .string r, vm] w (OwnIs w { head0 m false with avps := ansL (code) h r ++ more }) := by
  have hone : (Value.slice p m.avps.length c).oneCell' = true := rfl
  have hnb : 0 ≤ code ∧ code ≤ (4294967295 : Int) := by omega
  have PP := Lib.hid (fun u => by have := refPut (.slice none 0 0) [] (code) 4 u (by omega) Reads.sub0 (by simp); rw [show putted [] (code) 4 = bytesOf (code) 4 4 from by rw [putted4]; rfl] at this; exact this)
  have s64 : IntKind.u64.wrap code = code := by rw [IntKind.wrap_u64]; omega
  have HM := Lib.hid hm
  obtain ⟨len, hlen⟩ : ∃ len, more.length = len := ⟨_, rfl⟩
  have HLEN := Lib.hid hlen
  rw [hlen] at hn
  obtain ⟨l4, hl4⟩ : ∃ l4, (([a268 code] ++ [a264 h] ++ [a296 r]) ++ more).length = l4 := ⟨_, rfl⟩
  have LB4 := Lib.hid hl4
  have LB2 := Lib.hid (show ([a268 code] ++ [a264 h]).length = 2 from rfl)
  have LB3 := Lib.hid (show ([a268 code] ++ [a264 h] ++ [a296 r]).length = 3 from rfl)
  have LA1 : [a268 code].length = 1 := rfl
  have LA2 : ([a268 code] ++ [a264 h]).length = 2 := rfl
  obtain ⟨n1, hn1⟩ : ∃ n, (bs h).length = n := ⟨_, rfl⟩
  obtain ⟨n2, hn2⟩ : ∃ n, (bs r).length = n := ⟨_, rfl⟩
  have N1 := Lib.hid hn1
  have N2 := Lib.hid hn2
  have S1 := Lib.hid (rfl : w = w)
  have S2 := Lib.hid (rfl : w = w)
  have S3 := Lib.hid (rfl : w = w)
  have S4 := Lib.hid (rfl : w = w)
  have S5 := Lib.hid (rfl : w = w)
  have S6 := Lib.hid (rfl : w = w)
  have S7 := Lib.hid (rfl : w = w)
  have S8 := Lib.hid (rfl : w = w)
  have S9 := Lib.hid (rfl : w = w)
  clear hm hlen hl4 hn1 hn2
  go_enter Try.func23, Try.ntmps23
  go_upto_region 5 with (first
    | ((with_reducible refine wpl_boxAt rfl 25 (.tmp 0) rfl (rowM m (.slice p m.avps.length c)) ?_ ?_); rfl; go_must (intro w0 hat0 hu hs; clear hs; have c1 := hat0.cell 1; have c4 := hat0.cell 4; have c5 := hat0.cell 5; have c6 := hat0.cell 6; have c7 := hat0.cell 7; simp [rowM] at c1 c4 c5 c6 c7; have L0 := hat0.lt))
    | ((with_reducible refine wpl_allocAt rfl 25 rfl zeroM (by kernel_rfl) ?_); have _t := S1; clear _t; go_must (intro w1 hatR hb hs; clear hs S1; have hu_ := hu.trans (hb.mono hu.size); have hat0_ := hat0.ext hb; clear hu hat0; have hu := hu_; have hat0 := hat0_; clear hu_ hat0_ hb; clear c1 c4 c5 c6 c7; have c1 := hat0.cell 1; have c4 := hat0.cell 4; have c5 := hat0.cell 5; have c6 := hat0.cell 6; have c7 := hat0.cell 7; simp [rowM] at c1 c4 c5 c6 c7; have LR := hatR.lt))
    | ((with_reducible refine wpl_allocAt rfl 25 rfl zeroM (by kernel_rfl) ?_); have _t := S2; clear _t; go_must (intro w2 hatG hb hs; clear hs S2 c1 c4 c5 c6 c7; have Tw2_0 := hu.size; have Tw2_1 := hat0.lt; have Tw2_2 := hatR.lt; have hu_ := hu.trans (hb.mono hu.size); have hat0_ := hat0.ext hb; have hatR_ := hatR.ext hb; clear hu hat0 hatR; have hu := hu_; have hat0 := hat0_; have hatR := hatR_; clear hu_ hat0_ hatR_ hb; clear hat0; have LG := hatG.lt))
    | ((with_reducible refine wpl_storeR rfl 25 (.tmp 12) (.tmp 37) rfl rfl w1.heap.size 25 zeroM (rowM (head0 m false) (.slice none 0 0)) ?_ ?_ hatG (by kernel_rfl) ?_ ?_ ?_); rfl; rfl; rfl; (simp [rowM, Value.oneCell']); go_must (intro w3 hatG' hg; have hu_ := below_grown hu hg hu.size (by omega); have hatR_ := hatR.grown hg (by omega); clear hu hatR; have hu := hu_; have hatR := hatR_; clear hu_ hatR_ hg; clear hatG; have hatG := hatG'; clear hatG'; have LG3 := hatG.lt; have LR3 := hatR.lt)))
  have hu0 := hu
  have c8 := hatG.cell 8
  simp [rowM] at c8
  clear LA1 LA2
  refine Mono.wp_region_monoT 8 [some 38, some 39, some 40, some 41, some 42, some 43, some 44, some 45] [Mono.isV (.pointer (some ⟨w1.heap.size, 8, none⟩)), Mono.isV (.slice none 0 0), Mono.isV (.int .u64 code), readsP .u8 (bytesOf code 4 4), rowQ (a268 code), listP [a268 code], ownP w3.heap.size [a268 code], Mono.isV (.pointer (some ⟨w1.heap.size, 8, none⟩))] (by kernel_rfl) (by kernel_rfl) ?_ ?_
  · simp only [Mono.OpGoals, List.take_succ_cons, List.take_zero, and_true]
    refine ⟨?_, ?_, ?_, ?_, ?_, ?_, ?_, ?_⟩
    · intro a u hbu hsu hdu
      have cu := (hbu.cell (p := ⟨w1.heap.size, 8, none⟩) LG3).trans c8
      refine Mono.if_want rfl ?_
      have z12 : a.eval (.tmp 12) = .pointer (some ⟨w1.heap.size, 0, none⟩) := hsu 12 (by decide)
      simp [Act.eval] at z12
      exact Mono.ok_val (.pointer (some ⟨w1.heap.size, 8, none⟩)) (by simp [execOp, z12, go_sem, cu]) rfl
    · intro a u hbu hsu hdu
      have cu := (hbu.cell (p := ⟨w1.heap.size, 8, none⟩) LG3).trans c8
      refine Mono.if_want rfl ?_
      have z38 : a.eval (.tmp 38) = .pointer (some ⟨w1.heap.size, 8, none⟩) := Mono.dep_at hdu (i := 0) (d := 38) rfl rfl rfl
      simp [Act.eval] at z38
      exact Mono.ok_val (.slice none 0 0) (by simp [execOp, z38, go_sem, cu]) rfl
    · intro a u hbu hsu hdu
      have cu := (hbu.cell (p := ⟨w1.heap.size, 8, none⟩) LG3).trans c8
      refine Mono.if_want rfl ?_
      exact Mono.ok_move (.tmp 11) rfl (hsu 11 (by decide))
    · intro a u hbu hsu hdu
      have cu := (hbu.cell (p := ⟨w1.heap.size, 8, none⟩) LG3).trans c8
      refine Mono.if_want rfl ?_
      have z40 : a.eval (.tmp 40) = .int .u64 code := Mono.dep_at hdu (i := 2) (d := 40) rfl rfl rfl
      simp [Act.eval] at z40
      refine Mono.ok_call 14 _ _ rfl #[.slice none 0 0, .int .u64 code, .int .i64 4] (by simp [execOp, z40, go_sem]) ((PP.out u).mono ?_)
      rintro e u1 ⟨v1, rfl, hv1, hb1⟩
      exact ⟨_, rfl, hb1, hv1.reads⟩
    · intro a u hbu hsu hdu
      have cu := (hbu.cell (p := ⟨w1.heap.size, 8, none⟩) LG3).trans c8
      refine Mono.if_want rfl ?_
      have q41 : Reads .u8 u (a.eval (.tmp 41)) (bytesOf code 4 4) := Mono.dep_at hdu (i := 3) (d := 41) rfl rfl rfl
      have r41 := q41
      obtain ⟨q, s, z41, _⟩ := q41
      rw [z41] at r41
      exact Mono.ok_build 60 _ rfl #[(0, .int .u32 268), (2, .bool true), (4, .slice q (bytesOf code 4 4).length s)] (by simp [Act.eval] at z41; simp [z41, Act.eval]) (.agg (row (a268 code) (.slice q (bytesOf code 4 4).length s)).toArray) (by kernel_rfl) ⟨_, _, rfl, r41⟩
    · intro a u hbu hsu hdu
      have cu := (hbu.cell (p := ⟨w1.heap.size, 8, none⟩) LG3).trans c8
      refine Mono.if_want rfl ?_
      obtain ⟨q, s, z42, r42⟩ := Mono.dep_at hdu (i := 4) (d := 42) rfl rfl rfl
      exact ok_list1 (.tmp 42) rfl (a268 code) _ z42 r42 (fun _ _ h => h)
    · intro a u hbu hsu hdu
      have cu := (hbu.cell (p := ⟨w1.heap.size, 8, none⟩) LG3).trans c8
      refine Mono.if_want rfl ?_
      exact ok_append_nil (.tmp 39) (.tmp 43) rfl (a268 code) _ (Mono.dep_at hdu (i := 1) (d := 39) rfl rfl rfl) rfl (Mono.dep_at hdu (i := 5) (d := 43) rfl rfl rfl) (fun _ _ h _ => h.mono hbu.size)
    · intro a u hbu hsu hdu
      have cu := (hbu.cell (p := ⟨w1.heap.size, 8, none⟩) LG3).trans c8
      refine Mono.if_want rfl ?_
      have z12 : a.eval (.tmp 12) = .pointer (some ⟨w1.heap.size, 0, none⟩) := hsu 12 (by decide)
      simp [Act.eval] at z12
      exact Mono.ok_val (.pointer (some ⟨w1.heap.size, 8, none⟩)) (by simp [execOp, z12, go_sem, cu]) rfl
  intro u hu
  simp only [Mono.Fin]
  rintro _ rfl _ rfl _ rfl v41 h41 v42 h42 v43 h43 v44 h44 _ rfl
  have hown0 : OwnL 60 w3.heap.size u v44 [a268 code] := h44
  obtain ⟨pa, ca, rfl, _, _⟩ := hown0.reads.shape
  have hu' := hu0.trans (hu.mono hu0.size)
  have TW : w.heap.size ≤ w3.heap.size := hu0.size
  have TU := hu.size
  have hatR' := hatR.ext hu
  have hatG' := hatG.ext hu
  clear hu hu0 hatR hatG c8 h41 h42 h43 h44
  have hu := hu'
  have hatR := hatR'
  have hatG := hatG'
  clear hu' hatR' hatG'
  have LA1 : [a268 code].length = 1 := rfl
  have LA2 : ([a268 code] ++ [a264 h]).length = 2 := rfl
  rw [LA1] at hown0 ⊢
  simp [Act.put]
  go_wp2_with (first
    | ((with_reducible refine wpl_storeC rfl 23 (.tmp 45) (.tmp 44) rfl rfl w1.heap.size 8 25 (rowM (head0 m false) (.slice none 0 0)) (rowM (head0 m false) (.slice pa 1 ca)) (.slice pa 1 ca) ?_ ?_ hatG ?_ (by kernel_rfl) ?_ ?_ ?_); have _t := S3; clear _t; rfl; rfl; exact (show (8 : Nat) < 9 by decide); rfl; rfl; go_must (clear S3; intro y1 hatG' hg; have hown' := hown0.kept hg LG3 hatG (noByteM _ _ _ _); have TZy1 := hg.size; have hu_ := below_grown hu hg hu.size (by omega); have hatR_ := hatR.grown hg (by omega); clear hu hatR; have hu := hu_; have hatR := hatR_; clear hu_ hatR_ hg; clear hatG hown0; have hatG := hatG'; have hown := hown'; clear hatG' hown'; have c8 := hatG.cell 8; simp [rowM] at c8))
    | ((with_reducible refine wpl_bytesS rfl 9 26 (.tmp 48) rfl h 5 Try.underlying9 Try.underlying26 Try.underlying5 ?_ hh ?_); rfl; go_must (intro cb y2 hd2 hb hs; clear hs; have TP := hb.size; have TO := hu.size; have LO := Lib.hid hown.lt; rw [N1.out] at hd2 ⊢; have hu_ := hu.trans (hb.mono hu.size); have hatR_ := hatR.ext hb; have hatG_ := hatG.ext hb; have hown_ := hown.below hb; clear hu hatR hatG hown; have hu := hu_; have hatR := hatR_; have hatG := hatG_; have hown := hown_; clear hu_ hatR_ hatG_ hown_ hb))
    | (obtain ⟨i60, z60, i1, i2, i3, i4, i5⟩ := info41; (with_reducible refine wpl_push 23 60 40 51 (.tmp 50) (.tmp 47) rfl rfl rfl rfl rfl (a264 h) (.slice (some ⟨y1.heap.size, 0, none⟩) n1 cb) ?_ (build22 _ _) w3.heap.size i60 z60 Try.underlying23 i1 i2 i3 i4 i5 (.slice pa 1 ca) [a268 code] ?_ ?_ hown ?_ ?_ ?_ ?_ ?_ ?_); have _t := S4; clear _t; rfl; exact (fun _ => rfl); exact (fun _ => rfl); exact hd2; go_must (exact (fun h0 z hz e => (by have h1 := (LO.out z hz).2; have h2 := (fun z (e : (Value.slice (some (⟨y1.heap.size, 0, none⟩ : Addr)) n1 cb).ownBlock = some z) => (Option.some.inj e : y1.heap.size = z)) z e; omega))); (simp [maxLen, LA1, LA2]); (simp [LA1, LA2]); omega; go_must (clear i1 i2 i3 i4 i5 LO; intro v6 y3 hv6 hg; have hlo : ∀ z, (Value.ownBlock (.slice pa 1 ca)) = some z → w3.heap.size ≤ z := (fun z e => (hown.lt z e).1); have T6 := hg.size; have hux6 := hu.grown hg hu.size (fun z e => (by have := hlo z e; omega)); have hatG6 := atGrownR hatG hg (fun z e => (by have := hlo z e; omega)); have hatR6 := atGrownR hatR hg (fun z e => (by have := hlo z e; omega)); obtain ⟨pb, cc, rfl, _, _⟩ := hv6.reads.shape; clear hg hlo hu hatG hatR hown c8; have hu := hux6; have hatG := hatG6; have hatR := hatR6; clear hux6 hatG6 hatR6; rw [LB2.out] at hv6 ⊢))
    | ((with_reducible refine wpl_storeC rfl 23 (.tmp 53) (.tmp 52) rfl rfl w1.heap.size 8 25 (rowM (head0 m false) (.slice pa 1 ca)) (rowM (head0 m false) (.slice pb 2 cc)) (.slice pb 2 cc) ?_ ?_ hatG ?_ (by kernel_rfl) ?_ ?_ ?_); have _t := S5; clear _t; rfl; rfl; exact (show (8 : Nat) < 9 by decide); rfl; rfl; go_must (clear S5; intro y4 hatG' hg; have hown' := hv6.kept hg LG3 hatG (noByteM _ _ _ _); have TZy4 := hg.size; have hu_ := below_grown hu hg hu.size (by omega); have hatR_ := hatR.grown hg (by omega); clear hu hatR; have hu := hu_; have hatR := hatR_; clear hu_ hatR_ hg; clear hatG hv6; have hatG := hatG'; have hown := hown'; clear hatG' hown'; have c8 := hatG.cell 8; simp [rowM] at c8))
    | ((with_reducible refine wpl_bytesS rfl 9 26 (.tmp 56) rfl r 5 Try.underlying9 Try.underlying26 Try.underlying5 ?_ hr ?_); rfl; go_must (intro cd y5 hd5 hb hs; clear hs; have TP := hb.size; have TO := hu.size; have LO := Lib.hid hown.lt; rw [N2.out] at hd5 ⊢; have hu_ := hu.trans (hb.mono hu.size); have hatR_ := hatR.ext hb; have hatG_ := hatG.ext hb; have hown_ := hown.below hb; clear hu hatR hatG hown; have hu := hu_; have hatR := hatR_; have hatG := hatG_; have hown := hown_; clear hu_ hatR_ hatG_ hown_ hb))
    | (obtain ⟨i60, z60, i1, i2, i3, i4, i5⟩ := info41; (with_reducible refine wpl_push 23 60 40 59 (.tmp 58) (.tmp 55) rfl rfl rfl rfl rfl (a296 r) (.slice (some ⟨y4.heap.size, 0, none⟩) n2 cd) ?_ (build22 _ _) w3.heap.size i60 z60 Try.underlying23 i1 i2 i3 i4 i5 (.slice pb 2 cc) ([a268 code] ++ [a264 h]) ?_ ?_ hown ?_ ?_ ?_ ?_ ?_ ?_); have _t := S6; clear _t; rfl; exact (fun _ => rfl); exact (fun _ => rfl); exact hd5; go_must (exact (fun h0 z hz e => (by have h1 := (LO.out z hz).2; have h2 := (fun z (e : (Value.slice (some (⟨y4.heap.size, 0, none⟩ : Addr)) n2 cd).ownBlock = some z) => (Option.some.inj e : y4.heap.size = z)) z e; omega))); (simp [maxLen, LA1, LA2]); (simp [LA1, LA2]); omega; go_must (clear i1 i2 i3 i4 i5 LO; intro v6 y6 hv6 hg; have hlo : ∀ z, (Value.ownBlock (.slice pb 2 cc)) = some z → w3.heap.size ≤ z := (fun z e => (hown.lt z e).1); have T6 := hg.size; have hux6 := hu.grown hg hu.size (fun z e => (by have := hlo z e; omega)); have hatG6 := atGrownR hatG hg (fun z e => (by have := hlo z e; omega)); have hatR6 := atGrownR hatR hg (fun z e => (by have := hlo z e; omega)); obtain ⟨pc, ce, rfl, _, _⟩ := hv6.reads.shape; clear hg hlo hu hatG hatR hown c8; have hu := hux6; have hatG := hatG6; have hatR := hatR6; clear hux6 hatG6 hatR6; rw [LB3.out] at hv6 ⊢))
    | ((with_reducible refine wpl_storeC rfl 23 (.tmp 61) (.tmp 60) rfl rfl w1.heap.size 8 25 (rowM (head0 m false) (.slice pb 2 cc)) (rowM (head0 m false) (.slice pc 3 ce)) (.slice pc 3 ce) ?_ ?_ hatG ?_ (by kernel_rfl) ?_ ?_ ?_); have _t := S7; clear _t; rfl; rfl; exact (show (8 : Nat) < 9 by decide); rfl; rfl; go_must (clear S7; intro y7 hatG' hg; have hown' := hv6.kept hg LG3 hatG (noByteM _ _ _ _); have TZy7 := hg.size; have hu_ := below_grown hu hg hu.size (by omega); have hatR_ := hatR.grown hg (by omega); clear hu hatR; have hu := hu_; have hatR := hatR_; clear hu_ hatR_ hg; clear hatG hv6; have hatG := hatG'; have hown := hown'; clear hatG' hown'; have c8 := hatG.cell 8; simp [rowM] at c8))
    | (at_builtin; have _t := S8; clear _t; go_must (obtain ⟨i60, z60, i1, i2, i3, i4, i5⟩ := info41; refine wpl_appendRL rfl (.tmp 63) (.tmp 64) 23 rfl w3.heap.size 60 40 i60 z60 Try.underlying23 i1 i2 i3 i4 i5 _ _ ([a268 code] ++ [a264 h] ++ [a296 r]) more w rfl rfl hown HM.out hu TW ?_ ?_ ?_ ?_; (simp [maxLen, HLEN.out]; omega); (simp [HLEN.out]; omega); (have := hown; omega); clear i1 i2 i3 i4 i5 S8; intro v8 y8 hv6 hg; have hlo : ∀ z, (Value.slice pc 3 ce).ownBlock = some z → w3.heap.size ≤ z := (fun z e => (hown.lt z e).1); have T8 := hg.size; have hux6 := hu.grown hg hu.size (fun z e => (by have := hlo z e; omega)); have hatG6 := atGrownR hatG hg (fun z e => (by have := hlo z e; omega)); have hatR6 := atGrownR hatR hg (fun z e => (by have := hlo z e; omega)); obtain ⟨pd, cf, rfl, _, _⟩ := hv6.reads.shape; clear hg hlo hu hatG hatR hown c8; have hu := hux6; have hatG := hatG6; have hatR := hatR6; clear hux6 hatG6 hatR6; rw [LB4.out] at hv6 ⊢))
    | ((with_reducible refine wpl_storeC rfl 23 (.tmp 66) (.tmp 65) rfl rfl w1.heap.size 8 25 (rowM (head0 m false) (.slice pc 3 ce)) (rowM (head0 m false) (.slice pd l4 cf)) (.slice pd l4 cf) ?_ ?_ hatG ?_ (by kernel_rfl) ?_ ?_ ?_); have _t := S9; clear _t; rfl; rfl; exact (show (8 : Nat) < 9 by decide); rfl; rfl; go_must (clear S9; intro y9 hatG' hg; have hown' := hv6.kept hg LG3 hatG (noByteM _ _ _ _); have TZy9 := hg.size; have hu_ := below_grown hu hg hu.size (by omega); have hatR_ := hatR.grown hg (by omega); clear hu hatR; have hu := hu_; have hatR := hatR_; clear hu_ hatR_ hg; clear hatG hv6; have hatG := hatG'; have hown := hown'; clear hatG' hown'; skip))
    | ((with_reducible refine wpl_loadAt rfl 25 (.tmp 12) rfl w1.heap.size 25 (rowM (head0 m false) (.slice pd l4 cf)) hatG _ Try.underlying25 rfl (by kernel_rfl) ?_ ?_); rfl)
    | ((with_reducible refine wpl_storeR rfl 25 (.tmp 10) (.tmp 67) rfl rfl w0.heap.size 25 zeroM (rowM (head0 m false) (.slice pd l4 cf)) ?_ ?_ hatR (by kernel_rfl) ?_ ?_ ?_); rfl; rfl; rfl; (simp [rowM, Value.oneCell']); go_must (intro xz hatz hg; have hownz := hown.kept hg LR3 hatR noByteZ; have huz := below_grown hu hg hu.size (by omega))))
  exact end_cell (fn := Try.f23) (p := 10) (ty := 25) (by kernel_rfl) rfl hatz Try.underlying25 rfl (by kernel_rfl) rfl ⟨_, _, _, rfl, hownz.mono (by omega), huz⟩
set_option maxRecDepth 100000 in
set_option maxHeartbeats 1600000 in
theorem rans_2 (m : M) (p : Option Addr) (c : Nat) (code : Int) (h r : ByteArray) (vm : Value) (more : List A) (w : World) (hh : h.size ≤ maxLen) (hr : r.size ≤ maxLen) (hm : ReadsL w vm more) (hn : more.length ≤ 100) (hc : 3000 ≤ code ∧ code ≤ 3999) (hi : -9223372036854775808 ≤ code ∧ code ≤ 9223372036854775807) :
    Calls Try.prog 23 #[.agg (rowM m (.slice p m.avps.length c)), .int .i64 code, .string h, .string r, vm] w (OwnIs w { head0 m true with avps := ansL (code) h r ++ more }) := by
  have hone : (Value.slice p m.avps.length c).oneCell' = true := rfl
  have hnb : 0 ≤ code ∧ code ≤ (4294967295 : Int) := by omega
  have PP := Lib.hid (fun u => by have := refPut (.slice none 0 0) [] (code) 4 u (by omega) Reads.sub0 (by simp); rw [show putted [] (code) 4 = bytesOf (code) 4 4 from by rw [putted4]; rfl] at this; exact this)
  have s64 : IntKind.u64.wrap code = code := by rw [IntKind.wrap_u64]; omega
  have HM := Lib.hid hm
  obtain ⟨len, hlen⟩ : ∃ len, more.length = len := ⟨_, rfl⟩
  have HLEN := Lib.hid hlen
  rw [hlen] at hn
  obtain ⟨l4, hl4⟩ : ∃ l4, (([a268 code] ++ [a264 h] ++ [a296 r]) ++ more).length = l4 := ⟨_, rfl⟩
  have LB4 := Lib.hid hl4
  have LB2 := Lib.hid (show ([a268 code] ++ [a264 h]).length = 2 from rfl)
  have LB3 := Lib.hid (show ([a268 code] ++ [a264 h] ++ [a296 r]).length = 3 from rfl)
  have LA1 : [a268 code].length = 1 := rfl
  have LA2 : ([a268 code] ++ [a264 h]).length = 2 := rfl
  obtain ⟨n1, hn1⟩ : ∃ n, (bs h).length = n := ⟨_, rfl⟩
  obtain ⟨n2, hn2⟩ : ∃ n, (bs r).length = n := ⟨_, rfl⟩
  have N1 := Lib.hid hn1
  have N2 := Lib.hid hn2
  have S1 := Lib.hid (rfl : w = w)
  have S2 := Lib.hid (rfl : w = w)
  have S3 := Lib.hid (rfl : w = w)
  have S4 := Lib.hid (rfl : w = w)
  have S5 := Lib.hid (rfl : w = w)
  have S6 := Lib.hid (rfl : w = w)
  have S7 := Lib.hid (rfl : w = w)
  have S8 := Lib.hid (rfl : w = w)
  have S9 := Lib.hid (rfl : w = w)
  have e1 : decide (3000 ≤ code) = true := decide_eq_true (by omega)
  have e2 : decide (code < 4000) = true := decide_eq_true (by omega)
  clear hm hlen hl4 hn1 hn2
  go_enter Try.func23, Try.ntmps23
  go_upto_region 5 with (first
    | ((with_reducible refine wpl_boxAt rfl 25 (.tmp 0) rfl (rowM m (.slice p m.avps.length c)) ?_ ?_); rfl; go_must (intro w0 hat0 hu hs; clear hs; have c1 := hat0.cell 1; have c4 := hat0.cell 4; have c5 := hat0.cell 5; have c6 := hat0.cell 6; have c7 := hat0.cell 7; simp [rowM] at c1 c4 c5 c6 c7; have L0 := hat0.lt))
    | ((with_reducible refine wpl_allocAt rfl 25 rfl zeroM (by kernel_rfl) ?_); have _t := S1; clear _t; go_must (intro w1 hatR hb hs; clear hs S1; have hu_ := hu.trans (hb.mono hu.size); have hat0_ := hat0.ext hb; clear hu hat0; have hu := hu_; have hat0 := hat0_; clear hu_ hat0_ hb; clear c1 c4 c5 c6 c7; have c1 := hat0.cell 1; have c4 := hat0.cell 4; have c5 := hat0.cell 5; have c6 := hat0.cell 6; have c7 := hat0.cell 7; simp [rowM] at c1 c4 c5 c6 c7; have LR := hatR.lt))
    | ((with_reducible refine wpl_allocAt rfl 25 rfl zeroM (by kernel_rfl) ?_); have _t := S2; clear _t; go_must (intro w2 hatG hb hs; clear hs S2 c1 c4 c5 c6 c7; have Tw2_0 := hu.size; have Tw2_1 := hat0.lt; have Tw2_2 := hatR.lt; have hu_ := hu.trans (hb.mono hu.size); have hat0_ := hat0.ext hb; have hatR_ := hatR.ext hb; clear hu hat0 hatR; have hu := hu_; have hat0 := hat0_; have hatR := hatR_; clear hu_ hat0_ hatR_ hb; clear hat0; have LG := hatG.lt))
    | ((with_reducible refine wpl_storeR rfl 25 (.tmp 12) (.tmp 37) rfl rfl w1.heap.size 25 zeroM (rowM (head0 m true) (.slice none 0 0)) ?_ ?_ hatG (by kernel_rfl) ?_ ?_ ?_); rfl; rfl; rfl; (simp [rowM, Value.oneCell']); go_must (intro w3 hatG' hg; have hu_ := below_grown hu hg hu.size (by omega); have hatR_ := hatR.grown hg (by omega); clear hu hatR; have hu := hu_; have hatR := hatR_; clear hu_ hatR_ hg; clear hatG; have hatG := hatG'; clear hatG'; have LG3 := hatG.lt; have LR3 := hatR.lt)))
  have hu0 := hu
  have c8 := hatG.cell 8
  simp [rowM] at c8
  clear LA1 LA2
  refine Mono.wp_region_monoT 8 [some 38, some 39, some 40, some 41, some 42, some 43, some 44, some 45] [Mono.isV (.pointer (some ⟨w1.heap.size, 8, none⟩)), Mono.isV (.slice none 0 0), Mono.isV (.int .u64 code), readsP .u8 (bytesOf code 4 4), rowQ (a268 code), listP [a268 code], ownP w3.heap.size [a268 code], Mono.isV (.pointer (some ⟨w1.heap.size, 8, none⟩))] (by kernel_rfl) (by kernel_rfl) ?_ ?_
  · simp only [Mono.OpGoals, List.take_succ_cons, List.take_zero, and_true]
    refine ⟨?_, ?_, ?_, ?_, ?_, ?_, ?_, ?_⟩
    · intro a u hbu hsu hdu
      have cu := (hbu.cell (p := ⟨w1.heap.size, 8, none⟩) LG3).trans c8
      refine Mono.if_want rfl ?_
      have z12 : a.eval (.tmp 12) = .pointer (some ⟨w1.heap.size, 0, none⟩) := hsu 12 (by decide)
      simp [Act.eval] at z12
      exact Mono.ok_val (.pointer (some ⟨w1.heap.size, 8, none⟩)) (by simp [execOp, z12, go_sem, cu]) rfl
    · intro a u hbu hsu hdu
      have cu := (hbu.cell (p := ⟨w1.heap.size, 8, none⟩) LG3).trans c8
      refine Mono.if_want rfl ?_
      have z38 : a.eval (.tmp 38) = .pointer (some ⟨w1.heap.size, 8, none⟩) := Mono.dep_at hdu (i := 0) (d := 38) rfl rfl rfl
      simp [Act.eval] at z38
      exact Mono.ok_val (.slice none 0 0) (by simp [execOp, z38, go_sem, cu]) rfl
    · intro a u hbu hsu hdu
      have cu := (hbu.cell (p := ⟨w1.heap.size, 8, none⟩) LG3).trans c8
      refine Mono.if_want rfl ?_
      exact Mono.ok_move (.tmp 11) rfl (hsu 11 (by decide))
    · intro a u hbu hsu hdu
      have cu := (hbu.cell (p := ⟨w1.heap.size, 8, none⟩) LG3).trans c8
      refine Mono.if_want rfl ?_
      have z40 : a.eval (.tmp 40) = .int .u64 code := Mono.dep_at hdu (i := 2) (d := 40) rfl rfl rfl
      simp [Act.eval] at z40
      refine Mono.ok_call 14 _ _ rfl #[.slice none 0 0, .int .u64 code, .int .i64 4] (by simp [execOp, z40, go_sem]) ((PP.out u).mono ?_)
      rintro e u1 ⟨v1, rfl, hv1, hb1⟩
      exact ⟨_, rfl, hb1, hv1.reads⟩
    · intro a u hbu hsu hdu
      have cu := (hbu.cell (p := ⟨w1.heap.size, 8, none⟩) LG3).trans c8
      refine Mono.if_want rfl ?_
      have q41 : Reads .u8 u (a.eval (.tmp 41)) (bytesOf code 4 4) := Mono.dep_at hdu (i := 3) (d := 41) rfl rfl rfl
      have r41 := q41
      obtain ⟨q, s, z41, _⟩ := q41
      rw [z41] at r41
      exact Mono.ok_build 60 _ rfl #[(0, .int .u32 268), (2, .bool true), (4, .slice q (bytesOf code 4 4).length s)] (by simp [Act.eval] at z41; simp [z41, Act.eval]) (.agg (row (a268 code) (.slice q (bytesOf code 4 4).length s)).toArray) (by kernel_rfl) ⟨_, _, rfl, r41⟩
    · intro a u hbu hsu hdu
      have cu := (hbu.cell (p := ⟨w1.heap.size, 8, none⟩) LG3).trans c8
      refine Mono.if_want rfl ?_
      obtain ⟨q, s, z42, r42⟩ := Mono.dep_at hdu (i := 4) (d := 42) rfl rfl rfl
      exact ok_list1 (.tmp 42) rfl (a268 code) _ z42 r42 (fun _ _ h => h)
    · intro a u hbu hsu hdu
      have cu := (hbu.cell (p := ⟨w1.heap.size, 8, none⟩) LG3).trans c8
      refine Mono.if_want rfl ?_
      exact ok_append_nil (.tmp 39) (.tmp 43) rfl (a268 code) _ (Mono.dep_at hdu (i := 1) (d := 39) rfl rfl rfl) rfl (Mono.dep_at hdu (i := 5) (d := 43) rfl rfl rfl) (fun _ _ h _ => h.mono hbu.size)
    · intro a u hbu hsu hdu
      have cu := (hbu.cell (p := ⟨w1.heap.size, 8, none⟩) LG3).trans c8
      refine Mono.if_want rfl ?_
      have z12 : a.eval (.tmp 12) = .pointer (some ⟨w1.heap.size, 0, none⟩) := hsu 12 (by decide)
      simp [Act.eval] at z12
      exact Mono.ok_val (.pointer (some ⟨w1.heap.size, 8, none⟩)) (by simp [execOp, z12, go_sem, cu]) rfl
  intro u hu
  simp only [Mono.Fin]
  rintro _ rfl _ rfl _ rfl v41 h41 v42 h42 v43 h43 v44 h44 _ rfl
  have hown0 : OwnL 60 w3.heap.size u v44 [a268 code] := h44
  obtain ⟨pa, ca, rfl, _, _⟩ := hown0.reads.shape
  have hu' := hu0.trans (hu.mono hu0.size)
  have TW : w.heap.size ≤ w3.heap.size := hu0.size
  have TU := hu.size
  have hatR' := hatR.ext hu
  have hatG' := hatG.ext hu
  clear hu hu0 hatR hatG c8 h41 h42 h43 h44
  have hu := hu'
  have hatR := hatR'
  have hatG := hatG'
  clear hu' hatR' hatG'
  have LA1 : [a268 code].length = 1 := rfl
  have LA2 : ([a268 code] ++ [a264 h]).length = 2 := rfl
  rw [LA1] at hown0 ⊢
  simp [Act.put]
  go_wp2_with (first
    | ((with_reducible refine wpl_storeC rfl 23 (.tmp 45) (.tmp 44) rfl rfl w1.heap.size 8 25 (rowM (head0 m true) (.slice none 0 0)) (rowM (head0 m true) (.slice pa 1 ca)) (.slice pa 1 ca) ?_ ?_ hatG ?_ (by kernel_rfl) ?_ ?_ ?_); have _t := S3; clear _t; rfl; rfl; exact (show (8 : Nat) < 9 by decide); rfl; rfl; go_must (clear S3; intro y1 hatG' hg; have hown' := hown0.kept hg LG3 hatG (noByteM _ _ _ _); have TZy1 := hg.size; have hu_ := below_grown hu hg hu.size (by omega); have hatR_ := hatR.grown hg (by omega); clear hu hatR; have hu := hu_; have hatR := hatR_; clear hu_ hatR_ hg; clear hatG hown0; have hatG := hatG'; have hown := hown'; clear hatG' hown'; have c8 := hatG.cell 8; simp [rowM] at c8))
    | ((with_reducible refine wpl_bytesS rfl 9 26 (.tmp 48) rfl h 5 Try.underlying9 Try.underlying26 Try.underlying5 ?_ hh ?_); rfl; go_must (intro cb y2 hd2 hb hs; clear hs; have TP := hb.size; have TO := hu.size; have LO := Lib.hid hown.lt; rw [N1.out] at hd2 ⊢; have hu_ := hu.trans (hb.mono hu.size); have hatR_ := hatR.ext hb; have hatG_ := hatG.ext hb; have hown_ := hown.below hb; clear hu hatR hatG hown; have hu := hu_; have hatR := hatR_; have hatG := hatG_; have hown := hown_; clear hu_ hatR_ hatG_ hown_ hb))
    | (obtain ⟨i60, z60, i1, i2, i3, i4, i5⟩ := info41; (with_reducible refine wpl_push 23 60 40 51 (.tmp 50) (.tmp 47) rfl rfl rfl rfl rfl (a264 h) (.slice (some ⟨y1.heap.size, 0, none⟩) n1 cb) ?_ (build22 _ _) w3.heap.size i60 z60 Try.underlying23 i1 i2 i3 i4 i5 (.slice pa 1 ca) [a268 code] ?_ ?_ hown ?_ ?_ ?_ ?_ ?_ ?_); have _t := S4; clear _t; rfl; exact (fun _ => rfl); exact (fun _ => rfl); exact hd2; go_must (exact (fun h0 z hz e => (by have h1 := (LO.out z hz).2; have h2 := (fun z (e : (Value.slice (some (⟨y1.heap.size, 0, none⟩ : Addr)) n1 cb).ownBlock = some z) => (Option.some.inj e : y1.heap.size = z)) z e; omega))); (simp [maxLen, LA1, LA2]); (simp [LA1, LA2]); omega; go_must (clear i1 i2 i3 i4 i5 LO; intro v6 y3 hv6 hg; have hlo : ∀ z, (Value.ownBlock (.slice pa 1 ca)) = some z → w3.heap.size ≤ z := (fun z e => (hown.lt z e).1); have T6 := hg.size; have hux6 := hu.grown hg hu.size (fun z e => (by have := hlo z e; omega)); have hatG6 := atGrownR hatG hg (fun z e => (by have := hlo z e; omega)); have hatR6 := atGrownR hatR hg (fun z e => (by have := hlo z e; omega)); obtain ⟨pb, cc, rfl, _, _⟩ := hv6.reads.shape; clear hg hlo hu hatG hatR hown c8; have hu := hux6; have hatG := hatG6; have hatR := hatR6; clear hux6 hatG6 hatR6; rw [LB2.out] at hv6 ⊢))
    | ((with_reducible refine wpl_storeC rfl 23 (.tmp 53) (.tmp 52) rfl rfl w1.heap.size 8 25 (rowM (head0 m true) (.slice pa 1 ca)) (rowM (head0 m true) (.slice pb 2 cc)) (.slice pb 2 cc) ?_ ?_ hatG ?_ (by kernel_rfl) ?_ ?_ ?_); have _t := S5; clear _t; rfl; rfl; exact (show (8 : Nat) < 9 by decide); rfl; rfl; go_must (clear S5; intro y4 hatG' hg; have hown' := hv6.kept hg LG3 hatG (noByteM _ _ _ _); have TZy4 := hg.size; have hu_ := below_grown hu hg hu.size (by omega); have hatR_ := hatR.grown hg (by omega); clear hu hatR; have hu := hu_; have hatR := hatR_; clear hu_ hatR_ hg; clear hatG hv6; have hatG := hatG'; have hown := hown'; clear hatG' hown'; have c8 := hatG.cell 8; simp [rowM] at c8))
    | ((with_reducible refine wpl_bytesS rfl 9 26 (.tmp 56) rfl r 5 Try.underlying9 Try.underlying26 Try.underlying5 ?_ hr ?_); rfl; go_must (intro cd y5 hd5 hb hs; clear hs; have TP := hb.size; have TO := hu.size; have LO := Lib.hid hown.lt; rw [N2.out] at hd5 ⊢; have hu_ := hu.trans (hb.mono hu.size); have hatR_ := hatR.ext hb; have hatG_ := hatG.ext hb; have hown_ := hown.below hb; clear hu hatR hatG hown; have hu := hu_; have hatR := hatR_; have hatG := hatG_; have hown := hown_; clear hu_ hatR_ hatG_ hown_ hb))
    | (obtain ⟨i60, z60, i1, i2, i3, i4, i5⟩ := info41; (with_reducible refine wpl_push 23 60 40 59 (.tmp 58) (.tmp 55) rfl rfl rfl rfl rfl (a296 r) (.slice (some ⟨y4.heap.size, 0, none⟩) n2 cd) ?_ (build22 _ _) w3.heap.size i60 z60 Try.underlying23 i1 i2 i3 i4 i5 (.slice pb 2 cc) ([a268 code] ++ [a264 h]) ?_ ?_ hown ?_ ?_ ?_ ?_ ?_ ?_); have _t := S6; clear _t; rfl; exact (fun _ => rfl); exact (fun _ => rfl); exact hd5; go_must (exact (fun h0 z hz e => (by have h1 := (LO.out z hz).2; have h2 := (fun z (e : (Value.slice (some (⟨y4.heap.size, 0, none⟩ : Addr)) n2 cd).ownBlock = some z) => (Option.some.inj e : y4.heap.size = z)) z e; omega))); (simp [maxLen, LA1, LA2]); (simp [LA1, LA2]); omega; go_must (clear i1 i2 i3 i4 i5 LO; intro v6 y6 hv6 hg; have hlo : ∀ z, (Value.ownBlock (.slice pb 2 cc)) = some z → w3.heap.size ≤ z := (fun z e => (hown.lt z e).1); have T6 := hg.size; have hux6 := hu.grown hg hu.size (fun z e => (by have := hlo z e; omega)); have hatG6 := atGrownR hatG hg (fun z e => (by have := hlo z e; omega)); have hatR6 := atGrownR hatR hg (fun z e => (by have := hlo z e; omega)); obtain ⟨pc, ce, rfl, _, _⟩ := hv6.reads.shape; clear hg hlo hu hatG hatR hown c8; have hu := hux6; have hatG := hatG6; have hatR := hatR6; clear hux6 hatG6 hatR6; rw [LB3.out] at hv6 ⊢))
    | ((with_reducible refine wpl_storeC rfl 23 (.tmp 61) (.tmp 60) rfl rfl w1.heap.size 8 25 (rowM (head0 m true) (.slice pb 2 cc)) (rowM (head0 m true) (.slice pc 3 ce)) (.slice pc 3 ce) ?_ ?_ hatG ?_ (by kernel_rfl) ?_ ?_ ?_); have _t := S7; clear _t; rfl; rfl; exact (show (8 : Nat) < 9 by decide); rfl; rfl; go_must (clear S7; intro y7 hatG' hg; have hown' := hv6.kept hg LG3 hatG (noByteM _ _ _ _); have TZy7 := hg.size; have hu_ := below_grown hu hg hu.size (by omega); have hatR_ := hatR.grown hg (by omega); clear hu hatR; have hu := hu_; have hatR := hatR_; clear hu_ hatR_ hg; clear hatG hv6; have hatG := hatG'; have hown := hown'; clear hatG' hown'; have c8 := hatG.cell 8; simp [rowM] at c8))
    | (at_builtin; have _t := S8; clear _t; go_must (obtain ⟨i60, z60, i1, i2, i3, i4, i5⟩ := info41; refine wpl_appendRL rfl (.tmp 63) (.tmp 64) 23 rfl w3.heap.size 60 40 i60 z60 Try.underlying23 i1 i2 i3 i4 i5 _ _ ([a268 code] ++ [a264 h] ++ [a296 r]) more w rfl rfl hown HM.out hu TW ?_ ?_ ?_ ?_; (simp [maxLen, HLEN.out]; omega); (simp [HLEN.out]; omega); (have := hown; omega); clear i1 i2 i3 i4 i5 S8; intro v8 y8 hv6 hg; have hlo : ∀ z, (Value.slice pc 3 ce).ownBlock = some z → w3.heap.size ≤ z := (fun z e => (hown.lt z e).1); have T8 := hg.size; have hux6 := hu.grown hg hu.size (fun z e => (by have := hlo z e; omega)); have hatG6 := atGrownR hatG hg (fun z e => (by have := hlo z e; omega)); have hatR6 := atGrownR hatR hg (fun z e => (by have := hlo z e; omega)); obtain ⟨pd, cf, rfl, _, _⟩ := hv6.reads.shape; clear hg hlo hu hatG hatR hown c8; have hu := hux6; have hatG := hatG6; have hatR := hatR6; clear hux6 hatG6 hatR6; rw [LB4.out] at hv6 ⊢))
    | ((with_reducible refine wpl_storeC rfl 23 (.tmp 66) (.tmp 65) rfl rfl w1.heap.size 8 25 (rowM (head0 m true) (.slice pc 3 ce)) (rowM (head0 m true) (.slice pd l4 cf)) (.slice pd l4 cf) ?_ ?_ hatG ?_ (by kernel_rfl) ?_ ?_ ?_); have _t := S9; clear _t; rfl; rfl; exact (show (8 : Nat) < 9 by decide); rfl; rfl; go_must (clear S9; intro y9 hatG' hg; have hown' := hv6.kept hg LG3 hatG (noByteM _ _ _ _); have TZy9 := hg.size; have hu_ := below_grown hu hg hu.size (by omega); have hatR_ := hatR.grown hg (by omega); clear hu hatR; have hu := hu_; have hatR := hatR_; clear hu_ hatR_ hg; clear hatG hv6; have hatG := hatG'; have hown := hown'; clear hatG' hown'; skip))
    | ((with_reducible refine wpl_loadAt rfl 25 (.tmp 12) rfl w1.heap.size 25 (rowM (head0 m true) (.slice pd l4 cf)) hatG _ Try.underlying25 rfl (by kernel_rfl) ?_ ?_); rfl)
    | ((with_reducible refine wpl_storeR rfl 25 (.tmp 10) (.tmp 67) rfl rfl w0.heap.size 25 zeroM (rowM (head0 m true) (.slice pd l4 cf)) ?_ ?_ hatR (by kernel_rfl) ?_ ?_ ?_); rfl; rfl; rfl; (simp [rowM, Value.oneCell']); go_must (intro xz hatz hg; have hownz := hown.kept hg LR3 hatR noByteZ; have huz := below_grown hu hg hu.size (by omega))))
  exact end_cell (fn := Try.f23) (p := 10) (ty := 25) (by kernel_rfl) rfl hatz Try.underlying25 rfl (by kernel_rfl) rfl ⟨_, _, _, rfl, hownz.mono (by omega), huz⟩
set_option maxRecDepth 100000 in
set_option maxHeartbeats 1600000 in
theorem rans_3 (m : M) (p : Option Addr) (c : Nat) (code : Int) (h r : ByteArray) (vm : Value) (more : List A) (w : World) (hh : h.size ≤ maxLen) (hr : r.size ≤ maxLen) (hm : ReadsL w vm more) (hn : more.length ≤ 100) (hc : 4000 ≤ code ∧ code ≤ 4294967295) (hi : -9223372036854775808 ≤ code ∧ code ≤ 9223372036854775807) :
    Calls Try.prog 23 #[.agg (rowM m (.slice p m.avps.length c)), .int .i64 code, .string h, .string r, vm] w (OwnIs w { head0 m false with avps := ansL (code) h r ++ more }) := by
  have hone : (Value.slice p m.avps.length c).oneCell' = true := rfl
  have hnb : 0 ≤ code ∧ code ≤ (4294967295 : Int) := by omega
  have PP := Lib.hid (fun u => by have := refPut (.slice none 0 0) [] (code) 4 u (by omega) Reads.sub0 (by simp); rw [show putted [] (code) 4 = bytesOf (code) 4 4 from by rw [putted4]; rfl] at this; exact this)
  have s64 : IntKind.u64.wrap code = code := by rw [IntKind.wrap_u64]; omega
  have HM := Lib.hid hm
  obtain ⟨len, hlen⟩ : ∃ len, more.length = len := ⟨_, rfl⟩
  have HLEN := Lib.hid hlen
  rw [hlen] at hn
  obtain ⟨l4, hl4⟩ : ∃ l4, (([a268 code] ++ [a264 h] ++ [a296 r]) ++ more).length = l4 := ⟨_, rfl⟩
  have LB4 := Lib.hid hl4
  have LB2 := Lib.hid (show ([a268 code] ++ [a264 h]).length = 2 from rfl)
  have LB3 := Lib.hid (show ([a268 code] ++ [a264 h] ++ [a296 r]).length = 3 from rfl)
  have LA1 : [a268 code].length = 1 := rfl
  have LA2 : ([a268 code] ++ [a264 h]).length = 2 := rfl
  obtain ⟨n1, hn1⟩ : ∃ n, (bs h).length = n := ⟨_, rfl⟩
  obtain ⟨n2, hn2⟩ : ∃ n, (bs r).length = n := ⟨_, rfl⟩
  have N1 := Lib.hid hn1
  have N2 := Lib.hid hn2
  have S1 := Lib.hid (rfl : w = w)
  have S2 := Lib.hid (rfl : w = w)
  have S3 := Lib.hid (rfl : w = w)
  have S4 := Lib.hid (rfl : w = w)
  have S5 := Lib.hid (rfl : w = w)
  have S6 := Lib.hid (rfl : w = w)
  have S7 := Lib.hid (rfl : w = w)
  have S8 := Lib.hid (rfl : w = w)
  have S9 := Lib.hid (rfl : w = w)
  have e1 : decide (3000 ≤ code) = true := decide_eq_true (by omega)
  have e2 : decide (code < 4000) = false := decide_eq_false (by omega)
  clear hm hlen hl4 hn1 hn2
  go_enter Try.func23, Try.ntmps23
  go_upto_region 5 with (first
    | ((with_reducible refine wpl_boxAt rfl 25 (.tmp 0) rfl (rowM m (.slice p m.avps.length c)) ?_ ?_); rfl; go_must (intro w0 hat0 hu hs; clear hs; have c1 := hat0.cell 1; have c4 := hat0.cell 4; have c5 := hat0.cell 5; have c6 := hat0.cell 6; have c7 := hat0.cell 7; simp [rowM] at c1 c4 c5 c6 c7; have L0 := hat0.lt))
    | ((with_reducible refine wpl_allocAt rfl 25 rfl zeroM (by kernel_rfl) ?_); have _t := S1; clear _t; go_must (intro w1 hatR hb hs; clear hs S1; have hu_ := hu.trans (hb.mono hu.size); have hat0_ := hat0.ext hb; clear hu hat0; have hu := hu_; have hat0 := hat0_; clear hu_ hat0_ hb; clear c1 c4 c5 c6 c7; have c1 := hat0.cell 1; have c4 := hat0.cell 4; have c5 := hat0.cell 5; have c6 := hat0.cell 6; have c7 := hat0.cell 7; simp [rowM] at c1 c4 c5 c6 c7; have LR := hatR.lt))
    | ((with_reducible refine wpl_allocAt rfl 25 rfl zeroM (by kernel_rfl) ?_); have _t := S2; clear _t; go_must (intro w2 hatG hb hs; clear hs S2 c1 c4 c5 c6 c7; have Tw2_0 := hu.size; have Tw2_1 := hat0.lt; have Tw2_2 := hatR.lt; have hu_ := hu.trans (hb.mono hu.size); have hat0_ := hat0.ext hb; have hatR_ := hatR.ext hb; clear hu hat0 hatR; have hu := hu_; have hat0 := hat0_; have hatR := hatR_; clear hu_ hat0_ hatR_ hb; clear hat0; have LG := hatG.lt))
    | ((with_reducible refine wpl_storeR rfl 25 (.tmp 12) (.tmp 37) rfl rfl w1.heap.size 25 zeroM (rowM (head0 m false) (.slice none 0 0)) ?_ ?_ hatG (by kernel_rfl) ?_ ?_ ?_); rfl; rfl; rfl; (simp [rowM, Value.oneCell']); go_must (intro w3 hatG' hg; have hu_ := below_grown hu hg hu.size (by omega); have hatR_ := hatR.grown hg (by omega); clear hu hatR; have hu := hu_; have hatR := hatR_; clear hu_ hatR_ hg; clear hatG; have hatG := hatG'; clear hatG'; have LG3 := hatG.lt; have LR3 := hatR.lt)))
  have hu0 := hu
  have c8 := hatG.cell 8
  simp [rowM] at c8
  clear LA1 LA2
  refine Mono.wp_region_monoT 8 [some 38, some 39, some 40, some 41, some 42, some 43, some 44, some 45] [Mono.isV (.pointer (some ⟨w1.heap.size, 8, none⟩)), Mono.isV (.slice none 0 0), Mono.isV (.int .u64 code), readsP .u8 (bytesOf code 4 4), rowQ (a268 code), listP [a268 code], ownP w3.heap.size [a268 code], Mono.isV (.pointer (some ⟨w1.heap.size, 8, none⟩))] (by kernel_rfl) (by kernel_rfl) ?_ ?_
  · simp only [Mono.OpGoals, List.take_succ_cons, List.take_zero, and_true]
    refine ⟨?_, ?_, ?_, ?_, ?_, ?_, ?_, ?_⟩
    · intro a u hbu hsu hdu
      have cu := (hbu.cell (p := ⟨w1.heap.size, 8, none⟩) LG3).trans c8
      refine Mono.if_want rfl ?_
      have z12 : a.eval (.tmp 12) = .pointer (some ⟨w1.heap.size, 0, none⟩) := hsu 12 (by decide)
      simp [Act.eval] at z12
      exact Mono.ok_val (.pointer (some ⟨w1.heap.size, 8, none⟩)) (by simp [execOp, z12, go_sem, cu]) rfl
    · intro a u hbu hsu hdu
      have cu := (hbu.cell (p := ⟨w1.heap.size, 8, none⟩) LG3).trans c8
      refine Mono.if_want rfl ?_
      have z38 : a.eval (.tmp 38) = .pointer (some ⟨w1.heap.size, 8, none⟩) := Mono.dep_at hdu (i := 0) (d := 38) rfl rfl rfl
      simp [Act.eval] at z38
      exact Mono.ok_val (.slice none 0 0) (by simp [execOp, z38, go_sem, cu]) rfl
    · intro a u hbu hsu hdu
      have cu := (hbu.cell (p := ⟨w1.heap.size, 8, none⟩) LG3).trans c8
      refine Mono.if_want rfl ?_
      exact Mono.ok_move (.tmp 11) rfl (hsu 11 (by decide))
    · intro a u hbu hsu hdu
      have cu := (hbu.cell (p := ⟨w1.heap.size, 8, none⟩) LG3).trans c8
      refine Mono.if_want rfl ?_
      have z40 : a.eval (.tmp 40) = .int .u64 code := Mono.dep_at hdu (i := 2) (d := 40) rfl rfl rfl
      simp [Act.eval] at z40
      refine Mono.ok_call 14 _ _ rfl #[.slice none 0 0, .int .u64 code, .int .i64 4] (by simp [execOp, z40, go_sem]) ((PP.out u).mono ?_)
      rintro e u1 ⟨v1, rfl, hv1, hb1⟩
      exact ⟨_, rfl, hb1, hv1.reads⟩
    · intro a u hbu hsu hdu
      have cu := (hbu.cell (p := ⟨w1.heap.size, 8, none⟩) LG3).trans c8
      refine Mono.if_want rfl ?_
      have q41 : Reads .u8 u (a.eval (.tmp 41)) (bytesOf code 4 4) := Mono.dep_at hdu (i := 3) (d := 41) rfl rfl rfl
      have r41 := q41
      obtain ⟨q, s, z41, _⟩ := q41
      rw [z41] at r41
      exact Mono.ok_build 60 _ rfl #[(0, .int .u32 268), (2, .bool true), (4, .slice q (bytesOf code 4 4).length s)] (by simp [Act.eval] at z41; simp [z41, Act.eval]) (.agg (row (a268 code) (.slice q (bytesOf code 4 4).length s)).toArray) (by kernel_rfl) ⟨_, _, rfl, r41⟩
    · intro a u hbu hsu hdu
      have cu := (hbu.cell (p := ⟨w1.heap.size, 8, none⟩) LG3).trans c8
      refine Mono.if_want rfl ?_
      obtain ⟨q, s, z42, r42⟩ := Mono.dep_at hdu (i := 4) (d := 42) rfl rfl rfl
      exact ok_list1 (.tmp 42) rfl (a268 code) _ z42 r42 (fun _ _ h => h)
    · intro a u hbu hsu hdu
      have cu := (hbu.cell (p := ⟨w1.heap.size, 8, none⟩) LG3).trans c8
      refine Mono.if_want rfl ?_
      exact ok_append_nil (.tmp 39) (.tmp 43) rfl (a268 code) _ (Mono.dep_at hdu (i := 1) (d := 39) rfl rfl rfl) rfl (Mono.dep_at hdu (i := 5) (d := 43) rfl rfl rfl) (fun _ _ h _ => h.mono hbu.size)
    · intro a u hbu hsu hdu
      have cu := (hbu.cell (p := ⟨w1.heap.size, 8, none⟩) LG3).trans c8
      refine Mono.if_want rfl ?_
      have z12 : a.eval (.tmp 12) = .pointer (some ⟨w1.heap.size, 0, none⟩) := hsu 12 (by decide)
      simp [Act.eval] at z12
      exact Mono.ok_val (.pointer (some ⟨w1.heap.size, 8, none⟩)) (by simp [execOp, z12, go_sem, cu]) rfl
  intro u hu
  simp only [Mono.Fin]
  rintro _ rfl _ rfl _ rfl v41 h41 v42 h42 v43 h43 v44 h44 _ rfl
  have hown0 : OwnL 60 w3.heap.size u v44 [a268 code] := h44
  obtain ⟨pa, ca, rfl, _, _⟩ := hown0.reads.shape
  have hu' := hu0.trans (hu.mono hu0.size)
  have TW : w.heap.size ≤ w3.heap.size := hu0.size
  have TU := hu.size
  have hatR' := hatR.ext hu
  have hatG' := hatG.ext hu
  clear hu hu0 hatR hatG c8 h41 h42 h43 h44
  have hu := hu'
  have hatR := hatR'
  have hatG := hatG'
  clear hu' hatR' hatG'
  have LA1 : [a268 code].length = 1 := rfl
  have LA2 : ([a268 code] ++ [a264 h]).length = 2 := rfl
  rw [LA1] at hown0 ⊢
  simp [Act.put]
  go_wp2_with (first
    | ((with_reducible refine wpl_storeC rfl 23 (.tmp 45) (.tmp 44) rfl rfl w1.heap.size 8 25 (rowM (head0 m false) (.slice none 0 0)) (rowM (head0 m false) (.slice pa 1 ca)) (.slice pa 1 ca) ?_ ?_ hatG ?_ (by kernel_rfl) ?_ ?_ ?_); have _t := S3; clear _t; rfl; rfl; exact (show (8 : Nat) < 9 by decide); rfl; rfl; go_must (clear S3; intro y1 hatG' hg; have hown' := hown0.kept hg LG3 hatG (noByteM _ _ _ _); have TZy1 := hg.size; have hu_ := below_grown hu hg hu.size (by omega); have hatR_ := hatR.grown hg (by omega); clear hu hatR; have hu := hu_; have hatR := hatR_; clear hu_ hatR_ hg; clear hatG hown0; have hatG := hatG'; have hown := hown'; clear hatG' hown'; have c8 := hatG.cell 8; simp [rowM] at c8))
    | ((with_reducible refine wpl_bytesS rfl 9 26 (.tmp 48) rfl h 5 Try.underlying9 Try.underlying26 Try.underlying5 ?_ hh ?_); rfl; go_must (intro cb y2 hd2 hb hs; clear hs; have TP := hb.size; have TO := hu.size; have LO := Lib.hid hown.lt; rw [N1.out] at hd2 ⊢; have hu_ := hu.trans (hb.mono hu.size); have hatR_ := hatR.ext hb; have hatG_ := hatG.ext hb; have hown_ := hown.below hb; clear hu hatR hatG hown; have hu := hu_; have hatR := hatR_; have hatG := hatG_; have hown := hown_; clear hu_ hatR_ hatG_ hown_ hb))
    | (obtain ⟨i60, z60, i1, i2, i3, i4, i5⟩ := info41; (with_reducible refine wpl_push 23 60 40 51 (.tmp 50) (.tmp 47) rfl rfl rfl rfl rfl (a264 h) (.slice (some ⟨y1.heap.size, 0, none⟩) n1 cb) ?_ (build22 _ _) w3.heap.size i60 z60 Try.underlying23 i1 i2 i3 i4 i5 (.slice pa 1 ca) [a268 code] ?_ ?_ hown ?_ ?_ ?_ ?_ ?_ ?_); have _t := S4; clear _t; rfl; exact (fun _ => rfl); exact (fun _ => rfl); exact hd2; go_must (exact (fun h0 z hz e => (by have h1 := (LO.out z hz).2; have h2 := (fun z (e : (Value.slice (some (⟨y1.heap.size, 0, none⟩ : Addr)) n1 cb).ownBlock = some z) => (Option.some.inj e : y1.heap.size = z)) z e; omega))); (simp [maxLen, LA1, LA2]); (simp [LA1, LA2]); omega; go_must (clear i1 i2 i3 i4 i5 LO; intro v6 y3 hv6 hg; have hlo : ∀ z, (Value.ownBlock (.slice pa 1 ca)) = some z → w3.heap.size ≤ z := (fun z e => (hown.lt z e).1); have T6 := hg.size; have hux6 := hu.grown hg hu.size (fun z e => (by have := hlo z e; omega)); have hatG6 := atGrownR hatG hg (fun z e => (by have := hlo z e; omega)); have hatR6 := atGrownR hatR hg (fun z e => (by have := hlo z e; omega)); obtain ⟨pb, cc, rfl, _, _⟩ := hv6.reads.shape; clear hg hlo hu hatG hatR hown c8; have hu := hux6; have hatG := hatG6; have hatR := hatR6; clear hux6 hatG6 hatR6; rw [LB2.out] at hv6 ⊢))
    | ((with_reducible refine wpl_storeC rfl 23 (.tmp 53) (.tmp 52) rfl rfl w1.heap.size 8 25 (rowM (head0 m false) (.slice pa 1 ca)) (rowM (head0 m false) (.slice pb 2 cc)) (.slice pb 2 cc) ?_ ?_ hatG ?_ (by kernel_rfl) ?_ ?_ ?_); have _t := S5; clear _t; rfl; rfl; exact (show (8 : Nat) < 9 by decide); rfl; rfl; go_must (clear S5; intro y4 hatG' hg; have hown' := hv6.kept hg LG3 hatG (noByteM _ _ _ _); have TZy4 := hg.size; have hu_ := below_grown hu hg hu.size (by omega); have hatR_ := hatR.grown hg (by omega); clear hu hatR; have hu := hu_; have hatR := hatR_; clear hu_ hatR_ hg; clear hatG hv6; have hatG := hatG'; have hown := hown'; clear hatG' hown'; have c8 := hatG.cell 8; simp [rowM] at c8))
    | ((with_reducible refine wpl_bytesS rfl 9 26 (.tmp 56) rfl r 5 Try.underlying9 Try.underlying26 Try.underlying5 ?_ hr ?_); rfl; go_must (intro cd y5 hd5 hb hs; clear hs; have TP := hb.size; have TO := hu.size; have LO := Lib.hid hown.lt; rw [N2.out] at hd5 ⊢; have hu_ := hu.trans (hb.mono hu.size); have hatR_ := hatR.ext hb; have hatG_ := hatG.ext hb; have hown_ := hown.below hb; clear hu hatR hatG hown; have hu := hu_; have hatR := hatR_; have hatG := hatG_; have hown := hown_; clear hu_ hatR_ hatG_ hown_ hb))
    | (obtain ⟨i60, z60, i1, i2, i3, i4, i5⟩ := info41; (with_reducible refine wpl_push 23 60 40 59 (.tmp 58) (.tmp 55) rfl rfl rfl rfl rfl (a296 r) (.slice (some ⟨y4.heap.size, 0, none⟩) n2 cd) ?_ (build22 _ _) w3.heap.size i60 z60 Try.underlying23 i1 i2 i3 i4 i5 (.slice pb 2 cc) ([a268 code] ++ [a264 h]) ?_ ?_ hown ?_ ?_ ?_ ?_ ?_ ?_); have _t := S6; clear _t; rfl; exact (fun _ => rfl); exact (fun _ => rfl); exact hd5; go_must (exact (fun h0 z hz e => (by have h1 := (LO.out z hz).2; have h2 := (fun z (e : (Value.slice (some (⟨y4.heap.size, 0, none⟩ : Addr)) n2 cd).ownBlock = some z) => (Option.some.inj e : y4.heap.size = z)) z e; omega))); (simp [maxLen, LA1, LA2]); (simp [LA1, LA2]); omega; go_must (clear i1 i2 i3 i4 i5 LO; intro v6 y6 hv6 hg; have hlo : ∀ z, (Value.ownBlock (.slice pb 2 cc)) = some z → w3.heap.size ≤ z := (fun z e => (hown.lt z e).1); have T6 := hg.size; have hux6 := hu.grown hg hu.size (fun z e => (by have := hlo z e; omega)); have hatG6 := atGrownR hatG hg (fun z e => (by have := hlo z e; omega)); have hatR6 := atGrownR hatR hg (fun z e => (by have := hlo z e; omega)); obtain ⟨pc, ce, rfl, _, _⟩ := hv6.reads.shape; clear hg hlo hu hatG hatR hown c8; have hu := hux6; have hatG := hatG6; have hatR := hatR6; clear hux6 hatG6 hatR6; rw [LB3.out] at hv6 ⊢))
    | ((with_reducible refine wpl_storeC rfl 23 (.tmp 61) (.tmp 60) rfl rfl w1.heap.size 8 25 (rowM (head0 m false) (.slice pb 2 cc)) (rowM (head0 m false) (.slice pc 3 ce)) (.slice pc 3 ce) ?_ ?_ hatG ?_ (by kernel_rfl) ?_ ?_ ?_); have _t := S7; clear _t; rfl; rfl; exact (show (8 : Nat) < 9 by decide); rfl; rfl; go_must (clear S7; intro y7 hatG' hg; have hown' := hv6.kept hg LG3 hatG (noByteM _ _ _ _); have TZy7 := hg.size; have hu_ := below_grown hu hg hu.size (by omega); have hatR_ := hatR.grown hg (by omega); clear hu hatR; have hu := hu_; have hatR := hatR_; clear hu_ hatR_ hg; clear hatG hv6; have hatG := hatG'; have hown := hown'; clear hatG' hown'; have c8 := hatG.cell 8; simp [rowM] at c8))
    | (at_builtin; have _t := S8; clear _t; go_must (obtain ⟨i60, z60, i1, i2, i3, i4, i5⟩ := info41; refine wpl_appendRL rfl (.tmp 63) (.tmp 64) 23 rfl w3.heap.size 60 40 i60 z60 Try.underlying23 i1 i2 i3 i4 i5 _ _ ([a268 code] ++ [a264 h] ++ [a296 r]) more w rfl rfl hown HM.out hu TW ?_ ?_ ?_ ?_; (simp [maxLen, HLEN.out]; omega); (simp [HLEN.out]; omega); (have := hown; omega); clear i1 i2 i3 i4 i5 S8; intro v8 y8 hv6 hg; have hlo : ∀ z, (Value.slice pc 3 ce).ownBlock = some z → w3.heap.size ≤ z := (fun z e => (hown.lt z e).1); have T8 := hg.size; have hux6 := hu.grown hg hu.size (fun z e => (by have := hlo z e; omega)); have hatG6 := atGrownR hatG hg (fun z e => (by have := hlo z e; omega)); have hatR6 := atGrownR hatR hg (fun z e => (by have := hlo z e; omega)); obtain ⟨pd, cf, rfl, _, _⟩ := hv6.reads.shape; clear hg hlo hu hatG hatR hown c8; have hu := hux6; have hatG := hatG6; have hatR := hatR6; clear hux6 hatG6 hatR6; rw [LB4.out] at hv6 ⊢))
    | ((with_reducible refine wpl_storeC rfl 23 (.tmp 66) (.tmp 65) rfl rfl w1.heap.size 8 25 (rowM (head0 m false) (.slice pc 3 ce)) (rowM (head0 m false) (.slice pd l4 cf)) (.slice pd l4 cf) ?_ ?_ hatG ?_ (by kernel_rfl) ?_ ?_ ?_); have _t := S9; clear _t; rfl; rfl; exact (show (8 : Nat) < 9 by decide); rfl; rfl; go_must (clear S9; intro y9 hatG' hg; have hown' := hv6.kept hg LG3 hatG (noByteM _ _ _ _); have TZy9 := hg.size; have hu_ := below_grown hu hg hu.size (by omega); have hatR_ := hatR.grown hg (by omega); clear hu hatR; have hu := hu_; have hatR := hatR_; clear hu_ hatR_ hg; clear hatG hv6; have hatG := hatG'; have hown := hown'; clear hatG' hown'; skip))
    | ((with_reducible refine wpl_loadAt rfl 25 (.tmp 12) rfl w1.heap.size 25 (rowM (head0 m false) (.slice pd l4 cf)) hatG _ Try.underlying25 rfl (by kernel_rfl) ?_ ?_); rfl)
    | ((with_reducible refine wpl_storeR rfl 25 (.tmp 10) (.tmp 67) rfl rfl w0.heap.size 25 zeroM (rowM (head0 m false) (.slice pd l4 cf)) ?_ ?_ hatR (by kernel_rfl) ?_ ?_ ?_); rfl; rfl; rfl; (simp [rowM, Value.oneCell']); go_must (intro xz hatz hg; have hownz := hown.kept hg LR3 hatR noByteZ; have huz := below_grown hu hg hu.size (by omega))))
  exact end_cell (fn := Try.f23) (p := 10) (ty := 25) (by kernel_rfl) rfl hatz Try.underlying25 rfl (by kernel_rfl) rfl ⟨_, _, _, rfl, hownz.mono (by omega), huz⟩
set_option maxRecDepth 100000 in
set_option maxHeartbeats 1600000 in
theorem rans_4 (m : M) (p : Option Addr) (c : Nat) (code : Int) (h r : ByteArray) (vm : Value) (more : List A) (w : World) (hh : h.size ≤ maxLen) (hr : r.size ≤ maxLen) (hm : ReadsL w vm more) (hn : more.length ≤ 100) (hc : 4294967295 < code) (hi : -9223372036854775808 ≤ code ∧ code ≤ 9223372036854775807) :
    Calls Try.prog 23 #[.agg (rowM m (.slice p m.avps.length c)), .int .i64 code, .string h, .string r, vm] w (OwnIs w { head0 m false with avps := ansL (0) h r ++ more }) := by
  have hone : (Value.slice p m.avps.length c).oneCell' = true := rfl
  have hnb : 0 ≤ 0 ∧ 0 ≤ (4294967295 : Int) := by omega
  have PP := Lib.hid (fun u => by have := refPut (.slice none 0 0) [] (0) 4 u (by omega) Reads.sub0 (by simp); rw [show putted [] (0) 4 = bytesOf (0) 4 4 from by rw [putted4]; rfl] at this; exact this)
  have s64 : IntKind.u64.wrap 0 = 0 := by rw [IntKind.wrap_u64]; omega
  have HM := Lib.hid hm
  obtain ⟨len, hlen⟩ : ∃ len, more.length = len := ⟨_, rfl⟩
  have HLEN := Lib.hid hlen
  rw [hlen] at hn
  obtain ⟨l4, hl4⟩ : ∃ l4, (([a268 0] ++ [a264 h] ++ [a296 r]) ++ more).length = l4 := ⟨_, rfl⟩
  have LB4 := Lib.hid hl4
  have LB2 := Lib.hid (show ([a268 0] ++ [a264 h]).length = 2 from rfl)
  have LB3 := Lib.hid (show ([a268 0] ++ [a264 h] ++ [a296 r]).length = 3 from rfl)
  have LA1 : [a268 0].length = 1 := rfl
  have LA2 : ([a268 0] ++ [a264 h]).length = 2 := rfl
  obtain ⟨n1, hn1⟩ : ∃ n, (bs h).length = n := ⟨_, rfl⟩
  obtain ⟨n2, hn2⟩ : ∃ n, (bs r).length = n := ⟨_, rfl⟩
  have N1 := Lib.hid hn1
  have N2 := Lib.hid hn2
  have S1 := Lib.hid (rfl : w = w)
  have S2 := Lib.hid (rfl : w = w)
  have S3 := Lib.hid (rfl : w = w)
  have S4 := Lib.hid (rfl : w = w)
  have S5 := Lib.hid (rfl : w = w)
  have S6 := Lib.hid (rfl : w = w)
  have S7 := Lib.hid (rfl : w = w)
  have S8 := Lib.hid (rfl : w = w)
  have S9 := Lib.hid (rfl : w = w)
  have e1 : decide (3000 ≤ code) = true := decide_eq_true (by omega)
  have e2 : decide (code < 4000) = false := decide_eq_false (by omega)
  clear hm hlen hl4 hn1 hn2
  go_enter Try.func23, Try.ntmps23
  go_upto_region 5 with (first
    | ((with_reducible refine wpl_boxAt rfl 25 (.tmp 0) rfl (rowM m (.slice p m.avps.length c)) ?_ ?_); rfl; go_must (intro w0 hat0 hu hs; clear hs; have c1 := hat0.cell 1; have c4 := hat0.cell 4; have c5 := hat0.cell 5; have c6 := hat0.cell 6; have c7 := hat0.cell 7; simp [rowM] at c1 c4 c5 c6 c7; have L0 := hat0.lt))
    | ((with_reducible refine wpl_allocAt rfl 25 rfl zeroM (by kernel_rfl) ?_); have _t := S1; clear _t; go_must (intro w1 hatR hb hs; clear hs S1; have hu_ := hu.trans (hb.mono hu.size); have hat0_ := hat0.ext hb; clear hu hat0; have hu := hu_; have hat0 := hat0_; clear hu_ hat0_ hb; clear c1 c4 c5 c6 c7; have c1 := hat0.cell 1; have c4 := hat0.cell 4; have c5 := hat0.cell 5; have c6 := hat0.cell 6; have c7 := hat0.cell 7; simp [rowM] at c1 c4 c5 c6 c7; have LR := hatR.lt))
    | ((with_reducible refine wpl_allocAt rfl 25 rfl zeroM (by kernel_rfl) ?_); have _t := S2; clear _t; go_must (intro w2 hatG hb hs; clear hs S2 c1 c4 c5 c6 c7; have Tw2_0 := hu.size; have Tw2_1 := hat0.lt; have Tw2_2 := hatR.lt; have hu_ := hu.trans (hb.mono hu.size); have hat0_ := hat0.ext hb; have hatR_ := hatR.ext hb; clear hu hat0 hatR; have hu := hu_; have hat0 := hat0_; have hatR := hatR_; clear hu_ hat0_ hatR_ hb; clear hat0; have LG := hatG.lt))
    | ((with_reducible refine wpl_storeR rfl 25 (.tmp 12) (.tmp 37) rfl rfl w1.heap.size 25 zeroM (rowM (head0 m false) (.slice none 0 0)) ?_ ?_ hatG (by kernel_rfl) ?_ ?_ ?_); rfl; rfl; rfl; (simp [rowM, Value.oneCell']); go_must (intro w3 hatG' hg; have hu_ := below_grown hu hg hu.size (by omega); have hatR_ := hatR.grown hg (by omega); clear hu hatR; have hu := hu_; have hatR := hatR_; clear hu_ hatR_ hg; clear hatG; have hatG := hatG'; clear hatG'; have LG3 := hatG.lt; have LR3 := hatR.lt)))
  have hu0 := hu
  have c8 := hatG.cell 8
  simp [rowM] at c8
  clear LA1 LA2
  refine Mono.wp_region_monoT 8 [some 38, some 39, some 40, some 41, some 42, some 43, some 44, some 45] [Mono.isV (.pointer (some ⟨w1.heap.size, 8, none⟩)), Mono.isV (.slice none 0 0), Mono.isV (.int .u64 0), readsP .u8 (bytesOf 0 4 4), rowQ (a268 0), listP [a268 0], ownP w3.heap.size [a268 0], Mono.isV (.pointer (some ⟨w1.heap.size, 8, none⟩))] (by kernel_rfl) (by kernel_rfl) ?_ ?_
  · simp only [Mono.OpGoals, List.take_succ_cons, List.take_zero, and_true]
    refine ⟨?_, ?_, ?_, ?_, ?_, ?_, ?_, ?_⟩
    · intro a u hbu hsu hdu
      have cu := (hbu.cell (p := ⟨w1.heap.size, 8, none⟩) LG3).trans c8
      refine Mono.if_want rfl ?_
      have z12 : a.eval (.tmp 12) = .pointer (some ⟨w1.heap.size, 0, none⟩) := hsu 12 (by decide)
      simp [Act.eval] at z12
      exact Mono.ok_val (.pointer (some ⟨w1.heap.size, 8, none⟩)) (by simp [execOp, z12, go_sem, cu]) rfl
    · intro a u hbu hsu hdu
      have cu := (hbu.cell (p := ⟨w1.heap.size, 8, none⟩) LG3).trans c8
      refine Mono.if_want rfl ?_
      have z38 : a.eval (.tmp 38) = .pointer (some ⟨w1.heap.size, 8, none⟩) := Mono.dep_at hdu (i := 0) (d := 38) rfl rfl rfl
      simp [Act.eval] at z38
      exact Mono.ok_val (.slice none 0 0) (by simp [execOp, z38, go_sem, cu]) rfl
    · intro a u hbu hsu hdu
      have cu := (hbu.cell (p := ⟨w1.heap.size, 8, none⟩) LG3).trans c8
      refine Mono.if_want rfl ?_
      exact Mono.ok_move (.tmp 11) rfl (hsu 11 (by decide))
    · intro a u hbu hsu hdu
      have cu := (hbu.cell (p := ⟨w1.heap.size, 8, none⟩) LG3).trans c8
      refine Mono.if_want rfl ?_
      have z40 : a.eval (.tmp 40) = .int .u64 0 := Mono.dep_at hdu (i := 2) (d := 40) rfl rfl rfl
      simp [Act.eval] at z40
      refine Mono.ok_call 14 _ _ rfl #[.slice none 0 0, .int .u64 0, .int .i64 4] (by simp [execOp, z40, go_sem]) ((PP.out u).mono ?_)
      rintro e u1 ⟨v1, rfl, hv1, hb1⟩
      exact ⟨_, rfl, hb1, hv1.reads⟩
    · intro a u hbu hsu hdu
      have cu := (hbu.cell (p := ⟨w1.heap.size, 8, none⟩) LG3).trans c8
      refine Mono.if_want rfl ?_
      have q41 : Reads .u8 u (a.eval (.tmp 41)) (bytesOf 0 4 4) := Mono.dep_at hdu (i := 3) (d := 41) rfl rfl rfl
      have r41 := q41
      obtain ⟨q, s, z41, _⟩ := q41
      rw [z41] at r41
      exact Mono.ok_build 60 _ rfl #[(0, .int .u32 268), (2, .bool true), (4, .slice q (bytesOf 0 4 4).length s)] (by simp [Act.eval] at z41; simp [z41, Act.eval]) (.agg (row (a268 0) (.slice q (bytesOf 0 4 4).length s)).toArray) (by kernel_rfl) ⟨_, _, rfl, r41⟩
    · intro a u hbu hsu hdu
      have cu := (hbu.cell (p := ⟨w1.heap.size, 8, none⟩) LG3).trans c8
      refine Mono.if_want rfl ?_
      obtain ⟨q, s, z42, r42⟩ := Mono.dep_at hdu (i := 4) (d := 42) rfl rfl rfl
      exact ok_list1 (.tmp 42) rfl (a268 0) _ z42 r42 (fun _ _ h => h)
    · intro a u hbu hsu hdu
      have cu := (hbu.cell (p := ⟨w1.heap.size, 8, none⟩) LG3).trans c8
      refine Mono.if_want rfl ?_
      exact ok_append_nil (.tmp 39) (.tmp 43) rfl (a268 0) _ (Mono.dep_at hdu (i := 1) (d := 39) rfl rfl rfl) rfl (Mono.dep_at hdu (i := 5) (d := 43) rfl rfl rfl) (fun _ _ h _ => h.mono hbu.size)
    · intro a u hbu hsu hdu
      have cu := (hbu.cell (p := ⟨w1.heap.size, 8, none⟩) LG3).trans c8
      refine Mono.if_want rfl ?_
      have z12 : a.eval (.tmp 12) = .pointer (some ⟨w1.heap.size, 0, none⟩) := hsu 12 (by decide)
      simp [Act.eval] at z12
      exact Mono.ok_val (.pointer (some ⟨w1.heap.size, 8, none⟩)) (by simp [execOp, z12, go_sem, cu]) rfl
  intro u hu
  simp only [Mono.Fin]
  rintro _ rfl _ rfl _ rfl v41 h41 v42 h42 v43 h43 v44 h44 _ rfl
  have hown0 : OwnL 60 w3.heap.size u v44 [a268 0] := h44
  obtain ⟨pa, ca, rfl, _, _⟩ := hown0.reads.shape
  have hu' := hu0.trans (hu.mono hu0.size)
  have TW : w.heap.size ≤ w3.heap.size := hu0.size
  have TU := hu.size
  have hatR' := hatR.ext hu
  have hatG' := hatG.ext hu
  clear hu hu0 hatR hatG c8 h41 h42 h43 h44
  have hu := hu'
  have hatR := hatR'
  have hatG := hatG'
  clear hu' hatR' hatG'
  have LA1 : [a268 0].length = 1 := rfl
  have LA2 : ([a268 0] ++ [a264 h]).length = 2 := rfl
  rw [LA1] at hown0 ⊢
  simp [Act.put]
  go_wp2_with (first
    | ((with_reducible refine wpl_storeC rfl 23 (.tmp 45) (.tmp 44) rfl rfl w1.heap.size 8 25 (rowM (head0 m false) (.slice none 0 0)) (rowM (head0 m false) (.slice pa 1 ca)) (.slice pa 1 ca) ?_ ?_ hatG ?_ (by kernel_rfl) ?_ ?_ ?_); have _t := S3; clear _t; rfl; rfl; exact (show (8 : Nat) < 9 by decide); rfl; rfl; go_must (clear S3; intro y1 hatG' hg; have hown' := hown0.kept hg LG3 hatG (noByteM _ _ _ _); have TZy1 := hg.size; have hu_ := below_grown hu hg hu.size (by omega); have hatR_ := hatR.grown hg (by omega); clear hu hatR; have hu := hu_; have hatR := hatR_; clear hu_ hatR_ hg; clear hatG hown0; have hatG := hatG'; have hown := hown'; clear hatG' hown'; have c8 := hatG.cell 8; simp [rowM] at c8))
    | ((with_reducible refine wpl_bytesS rfl 9 26 (.tmp 48) rfl h 5 Try.underlying9 Try.underlying26 Try.underlying5 ?_ hh ?_); rfl; go_must (intro cb y2 hd2 hb hs; clear hs; have TP := hb.size; have TO := hu.size; have LO := Lib.hid hown.lt; rw [N1.out] at hd2 ⊢; have hu_ := hu.trans (hb.mono hu.size); have hatR_ := hatR.ext hb; have hatG_ := hatG.ext hb; have hown_ := hown.below hb; clear hu hatR hatG hown; have hu := hu_; have hatR := hatR_; have hatG := hatG_; have hown := hown_; clear hu_ hatR_ hatG_ hown_ hb))
    | (obtain ⟨i60, z60, i1, i2, i3, i4, i5⟩ := info41; (with_reducible refine wpl_push 23 60 40 51 (.tmp 50) (.tmp 47) rfl rfl rfl rfl rfl (a264 h) (.slice (some ⟨y1.heap.size, 0, none⟩) n1 cb) ?_ (build22 _ _) w3.heap.size i60 z60 Try.underlying23 i1 i2 i3 i4 i5 (.slice pa 1 ca) [a268 0] ?_ ?_ hown ?_ ?_ ?_ ?_ ?_ ?_); have _t := S4; clear _t; rfl; exact (fun _ => rfl); exact (fun _ => rfl); exact hd2; go_must (exact (fun h0 z hz e => (by have h1 := (LO.out z hz).2; have h2 := (fun z (e : (Value.slice (some (⟨y1.heap.size, 0, none⟩ : Addr)) n1 cb).ownBlock = some z) => (Option.some.inj e : y1.heap.size = z)) z e; omega))); (simp [maxLen, LA1, LA2]); (simp [LA1, LA2]); omega; go_must (clear i1 i2 i3 i4 i5 LO; intro v6 y3 hv6 hg; have hlo : ∀ z, (Value.ownBlock (.slice pa 1 ca)) = some z → w3.heap.size ≤ z := (fun z e => (hown.lt z e).1); have T6 := hg.size; have hux6 := hu.grown hg hu.size (fun z e => (by have := hlo z e; omega)); have hatG6 := atGrownR hatG hg (fun z e => (by have := hlo z e; omega)); have hatR6 := atGrownR hatR hg (fun z e => (by have := hlo z e; omega)); obtain ⟨pb, cc, rfl, _, _⟩ := hv6.reads.shape; clear hg hlo hu hatG hatR hown c8; have hu := hux6; have hatG := hatG6; have hatR := hatR6; clear hux6 hatG6 hatR6; rw [LB2.out] at hv6 ⊢))
    | ((with_reducible refine wpl_storeC rfl 23 (.tmp 53) (.tmp 52) rfl rfl w1.heap.size 8 25 (rowM (head0 m false) (.slice pa 1 ca)) (rowM (head0 m false) (.slice pb 2 cc)) (.slice pb 2 cc) ?_ ?_ hatG ?_ (by kernel_rfl) ?_ ?_ ?_); have _t := S5; clear _t; rfl; rfl; exact (show (8 : Nat) < 9 by decide); rfl; rfl; go_must (clear S5; intro y4 hatG' hg; have hown' := hv6.kept hg LG3 hatG (noByteM _ _ _ _); have TZy4 := hg.size; have hu_ := below_grown hu hg hu.size (by omega); have hatR_ := hatR.grown hg (by omega); clear hu hatR; have hu := hu_; have hatR := hatR_; clear hu_ hatR_ hg; clear hatG hv6; have hatG := hatG'; have hown := hown'; clear hatG' hown'; have c8 := hatG.cell 8; simp [rowM] at c8))
    | ((with_reducible refine wpl_bytesS rfl 9 26 (.tmp 56) rfl r 5 Try.underlying9 Try.underlying26 Try.underlying5 ?_ hr ?_); rfl; go_must (intro cd y5 hd5 hb hs; clear hs; have TP := hb.size; have TO := hu.size; have LO := Lib.hid hown.lt; rw [N2.out] at hd5 ⊢; have hu_ := hu.trans (hb.mono hu.size); have hatR_ := hatR.ext hb; have hatG_ := hatG.ext hb; have hown_ := hown.below hb; clear hu hatR hatG hown; have hu := hu_; have hatR := hatR_; have hatG := hatG_; have hown := hown_; clear hu_ hatR_ hatG_ hown_ hb))
    | (obtain ⟨i60, z60, i1, i2, i3, i4, i5⟩ := info41; (with_reducible refine wpl_push 23 60 40 59 (.tmp 58) (.tmp 55) rfl rfl rfl rfl rfl (a296 r) (.slice (some ⟨y4.heap.size, 0, none⟩) n2 cd) ?_ (build22 _ _) w3.heap.size i60 z60 Try.underlying23 i1 i2 i3 i4 i5 (.slice pb 2 cc) ([a268 0] ++ [a264 h]) ?_ ?_ hown ?_ ?_ ?_ ?_ ?_ ?_); have _t := S6; clear _t; rfl; exact (fun _ => rfl); exact (fun _ => rfl); exact hd5; go_must (exact (fun h0 z hz e => (by have h1 := (LO.out z hz).2; have h2 := (fun z (e : (Value.slice (some (⟨y4.heap.size, 0, none⟩ : Addr)) n2 cd).ownBlock = some z) => (Option.some.inj e : y4.heap.size = z)) z e; omega))); (simp [maxLen, LA1, LA2]); (simp [LA1, LA2]); omega; go_must (clear i1 i2 i3 i4 i5 LO; intro v6 y6 hv6 hg; have hlo : ∀ z, (Value.ownBlock (.slice pb 2 cc)) = some z → w3.heap.size ≤ z := (fun z e => (hown.lt z e).1); have T6 := hg.size; have hux6 := hu.grown hg hu.size (fun z e => (by have := hlo z e; omega)); have hatG6 := atGrownR hatG hg (fun z e => (by have := hlo z e; omega)); have hatR6 := atGrownR hatR hg (fun z e => (by have := hlo z e; omega)); obtain ⟨pc, ce, rfl, _, _⟩ := hv6.reads.shape; clear hg hlo hu hatG hatR hown c8; have hu := hux6; have hatG := hatG6; have hatR := hatR6; clear hux6 hatG6 hatR6; rw [LB3.out] at hv6 ⊢))
    | ((with_reducible refine wpl_storeC rfl 23 (.tmp 61) (.tmp 60) rfl rfl w1.heap.size 8 25 (rowM (head0 m false) (.slice pb 2 cc)) (rowM (head0 m false) (.slice pc 3 ce)) (.slice pc 3 ce) ?_ ?_ hatG ?_ (by kernel_rfl) ?_ ?_ ?_); have _t := S7; clear _t; rfl; rfl; exact (show (8 : Nat) < 9 by decide); rfl; rfl; go_must (clear S7; intro y7 hatG' hg; have hown' := hv6.kept hg LG3 hatG (noByteM _ _ _ _); have TZy7 := hg.size; have hu_ := below_grown hu hg hu.size (by omega); have hatR_ := hatR.grown hg (by omega); clear hu hatR; have hu := hu_; have hatR := hatR_; clear hu_ hatR_ hg; clear hatG hv6; have hatG := hatG'; have hown := hown'; clear hatG' hown'; have c8 := hatG.cell 8; simp [rowM] at c8))
    | (at_builtin; have _t := S8; clear _t; go_must (obtain ⟨i60, z60, i1, i2, i3, i4, i5⟩ := info41; refine wpl_appendRL rfl (.tmp 63) (.tmp 64) 23 rfl w3.heap.size 60 40 i60 z60 Try.underlying23 i1 i2 i3 i4 i5 _ _ ([a268 0] ++ [a264 h] ++ [a296 r]) more w rfl rfl hown HM.out hu TW ?_ ?_ ?_ ?_; (simp [maxLen, HLEN.out]; omega); (simp [HLEN.out]; omega); (have := hown; omega); clear i1 i2 i3 i4 i5 S8; intro v8 y8 hv6 hg; have hlo : ∀ z, (Value.slice pc 3 ce).ownBlock = some z → w3.heap.size ≤ z := (fun z e => (hown.lt z e).1); have T8 := hg.size; have hux6 := hu.grown hg hu.size (fun z e => (by have := hlo z e; omega)); have hatG6 := atGrownR hatG hg (fun z e => (by have := hlo z e; omega)); have hatR6 := atGrownR hatR hg (fun z e => (by have := hlo z e; omega)); obtain ⟨pd, cf, rfl, _, _⟩ := hv6.reads.shape; clear hg hlo hu hatG hatR hown c8; have hu := hux6; have hatG := hatG6; have hatR := hatR6; clear hux6 hatG6 hatR6; rw [LB4.out] at hv6 ⊢))
    | ((with_reducible refine wpl_storeC rfl 23 (.tmp 66) (.tmp 65) rfl rfl w1.heap.size 8 25 (rowM (head0 m false) (.slice pc 3 ce)) (rowM (head0 m false) (.slice pd l4 cf)) (.slice pd l4 cf) ?_ ?_ hatG ?_ (by kernel_rfl) ?_ ?_ ?_); have _t := S9; clear _t; rfl; rfl; exact (show (8 : Nat) < 9 by decide); rfl; rfl; go_must (clear S9; intro y9 hatG' hg; have hown' := hv6.kept hg LG3 hatG (noByteM _ _ _ _); have TZy9 := hg.size; have hu_ := below_grown hu hg hu.size (by omega); have hatR_ := hatR.grown hg (by omega); clear hu hatR; have hu := hu_; have hatR := hatR_; clear hu_ hatR_ hg; clear hatG hv6; have hatG := hatG'; have hown := hown'; clear hatG' hown'; skip))
    | ((with_reducible refine wpl_loadAt rfl 25 (.tmp 12) rfl w1.heap.size 25 (rowM (head0 m false) (.slice pd l4 cf)) hatG _ Try.underlying25 rfl (by kernel_rfl) ?_ ?_); rfl)
    | ((with_reducible refine wpl_storeR rfl 25 (.tmp 10) (.tmp 67) rfl rfl w0.heap.size 25 zeroM (rowM (head0 m false) (.slice pd l4 cf)) ?_ ?_ hatR (by kernel_rfl) ?_ ?_ ?_); rfl; rfl; rfl; (simp [rowM, Value.oneCell']); go_must (intro xz hatz hg; have hownz := hown.kept hg LR3 hatR noByteZ; have huz := below_grown hu hg hu.size (by omega))))
  exact end_cell (fn := Try.f23) (p := 10) (ty := 25) (by kernel_rfl) rfl hatz Try.underlying25 rfl (by kernel_rfl) rfl ⟨_, _, _, rfl, hownz.mono (by omega), huz⟩
theorem refAnswer (m : M) (p : Option Addr) (c : Nat) (code : Int) (h r : ByteArray) (vm : Value) (more : List A) (w : World) (hh : h.size ≤ maxLen) (hr : r.size ≤ maxLen) (hm : ReadsL w vm more) (hn : more.length ≤ 100) (hi : -9223372036854775808 ≤ code ∧ code ≤ 9223372036854775807) :
    Calls Try.prog 23 #[.agg (rowM m (.slice p m.avps.length c)), .int .i64 code, .string h, .string r, vm] w (OwnIs w (ansOf m code h r more)) := by
  unfold ansOf clampN
  by_cases h0 : code < 0
  · rw [decide_eq_false (by omega), if_neg (by omega)]; exact rans_0 m p c code h r vm more w hh hr hm hn h0 hi
  by_cases h1 : code < 3000
  · rw [decide_eq_false (by omega), if_pos (by omega)]; exact rans_1 m p c code h r vm more w hh hr hm hn (by omega) hi
  by_cases h2 : code ≤ 3999
  · rw [decide_eq_true (by omega), if_pos (by omega)]; exact rans_2 m p c code h r vm more w hh hr hm hn (by omega) hi
  by_cases h3 : code ≤ 4294967295
  · rw [decide_eq_false (by omega), if_pos (by omega)]; exact rans_3 m p c code h r vm more w hh hr hm hn (by omega) hi
  · rw [decide_eq_false (by omega), if_neg (by omega)]; exact rans_4 m p c code h r vm more w hh hr hm hn (by omega) hi
end Go.Proofs.Ytcekkppjalipfaa.Avp
