/-
  Contract: the law's own cut (20) of messages: their pieces, numbered one behind the other, or no.
-/
import Derived.Test.YteiiifonejkjbaaAll10
import Derived.Test.YteiiifonejkjbaaCallU
namespace Go.Proofs.Yteiiifonejkjbaa.Fa
open Go.RowKit Mem Cells Ops Pcs Go.Maps Go.Proofs.Yteiiifonejkjbaa.Open Go.Proofs.Yteiiifonejkjbaa.Bx Go.Proofs.Yteiiifonejkjbaa.Rb Chunk
set_option linter.unusedVariables false
set_option linter.unusedSimpArgs false
attribute [local go_sem] Oper.semAt_some

theorem cutF_len {nx : Nat → Int} {x : C} (hok : x.ok) (h0 : (cutF nx x).2.2 = 0) : (cutF nx x).1.length ≤ 4096 ∧ 0 < (cutF nx x).1.length := by
  obtain ⟨s, xs, un, z⟩ := x
  obtain ⟨⟨h1, h2⟩, h3, h4, h5⟩ := hok
  simp only at h1 h2 h3 h4 h5
  have hE : cutE false xs.length s z = 0 := by
    by_cases h : cutE false xs.length s z = 0
    · exact h
    · exfalso
      unfold cutF at h0
      simp only at h0
      rw [if_neg h] at h0
      exact h h0
  obtain ⟨k1, k2, ⟨s', rfl, k3, k4⟩, sz, rfl, k5, k6, k7⟩ := cutE_0 h1 hE
  unfold cutF
  simp only [hE, if_true, k4, k7, PE_length]
  refine ⟨?_, ?_⟩
  · refine Nat.le_trans (Nat.div_le_of_le_mul (m := xs.length + sz - 1) (k := sz) (n := xs.length) ?_) k2
    obtain ⟨a, ha⟩ : ∃ a, xs.length = a + 1 := ⟨xs.length - 1, by omega⟩
    obtain ⟨b, hb⟩ : ∃ b, sz = b + 1 := ⟨sz - 1, by omega⟩
    rw [ha, hb, Nat.mul_add, Nat.mul_one, Nat.add_mul, Nat.one_mul]
    omega
  · exact Nat.div_pos (by omega) k5
/-- Another list's block turns. -/
theorem q_other {B B' : Nat} {w w' : World} {v u : Value} {al bl : List A} (h : OwnQ B w v al) (h' : OwnQ B' w u bl) (hg : w.grownBy w' u.ownBlock) (hne : ∀ q, u.ownBlock = some q → v.ownBlock ≠ some q) : OwnQ B w' v al := by
  obtain ⟨zs, h1, h2, h3⟩ := h
  obtain ⟨ys, f1, f2, f3⟩ := h'
  refine ⟨zs, h1, h2.kept hg ?_, fun z hz => (h3 z hz).kept hg (own_ne2 (h3 z hz) f2 (by decide))⟩
  cases hv : v.ownBlock with
  | none => exact .inl rfl
  | some g => exact .inr (fun e => hne g e.symm hv)
theorem q_lt {B : Nat} {w : World} {v : Value} {al : List A} (h : OwnQ B w v al) (q : Nat) (hq : v.ownBlock = some q) : B ≤ q ∧ q < w.heap.size := h.ownD.ownL.lt q hq
/-- One piece more behind a list, and where it lies then. -/
theorem run_append1_at {w : World} {B q m : Nat} {v : Value} {al : List A} (h : OwnQ B w v al) (A : A) (d : Value) (hat : At w q 45 (row A d).toArray) (hd : Row .u8 5 B w d A.data) (hB : B ≤ w.heap.size) (hn : al.length ≤ 99999) :
    ∃ v' w', (Builtin.append_ #[35, 35] 35 #[v, .slice (some ⟨q, 0, none⟩) 1 m]).run Try.prog w = .ok v' w' ∧ OwnQ B w' v' (al ++ [A]) ∧ w.grownBy w' v.ownBlock ∧ (v'.ownBlock = v.ownBlock ∨ v'.ownBlock = some w.heap.size) := by
  obtain ⟨v', w', hr, h1, h2⟩ := run_append1 (m := m) h A d hat hd hB hn
  obtain ⟨i, hi, hz0, hz1, hz2⟩ := info_parts info45
  obtain ⟨zs, e1, e2, e3⟩ := id h
  have hone : ∀ u ∈ flat [(A, d)], u.oneCell' = true := flat_one' (w := w) (fun z hz => by rw [List.mem_singleton] at hz; subst hz; exact hd.reads)
  refine ⟨v', w', hr, h1, h2, append_block (P := Try.prog) Try.underlying35 hi hz0 hz1 hz2 rfl (by omega) e2 (a := ⟨q, 0, none⟩) (m := 1) (c := m) (news := flat [(A, d)]) rfl (fun j u hj => by rw [add_none, Nat.zero_add, hat.cell j, ← hj, flat_one]; simp) hone (by simp [maxLen]; omega) (by omega) hr⟩
section
variable {P : Program} {w : World} {ops : Array Oper} {rest : List Oper} {o : Oper} {a : Act} {Q : Exit → Act → World → Prop}
theorem wpl_buildV (hgd : o.guard = none) (S : TypeId) (x : Operand) (ho : o.op = .buildSlice S 1 #[(0, x)]) (v r : Value) (w' : World) (hx : a.eval x = v) (hrun : (Instr.buildSlice S 1 #[(0, v)]).run P w = .ok r w')
    (K : wpList P ops Q rest (a.put o.dst r) w') : wpList P ops Q (o :: rest) a w :=
  wpList_plain hgd fun K' hK => Mem.wp_build S 1 x ho v r w' hx hrun (hK _ _ K)
end
theorem head_rowC {x : C} {d : Value} {w : World} {b o : Nat} (h : w.rangeAt b o (rowC x d)) : w.rangeAt b o [.int .u16 x.s, d] := fun j v hj => h j v (by
  match j, hj with
  | 0, hj => exact hj
  | 1, hj => exact hj)
theorem range_but {X : Nat → Prop} {w w' : World} {b off : Nat} {cs : List Value} (h : w.rangeAt b off cs) (hb : ButX X w w') (hlt : b < w.heap.size) (hx : ¬ X b) : w'.rangeAt b off cs := fun j v hv => by
  rw [← h j v hv]
  simp only [World.cell?, hb.block b hlt hx]
def CutIs (w : World) (first : Int) (al : List C) : Ending → World → Prop := fun e w' => ∃ v' b, e = .returned (.tuple #[v', .bool b]) ∧ Below w.heap.size w w' ∧ (b = true → ∃ out, cutsF first (al.take 20) (fun _ => 0) [] = some out ∧ OwnQ w.heap.size w' v' out)
theorem cutsF_step {first : Int} {al : List C} {i : Nat} {x : C} (hx : al[i]? = some x) (hi : i < 20) {nx : Nat → Int} {out : List A} (h0 : (cutF nx x).2.2 = 0) (hl : out.length + (cutF nx x).1.length ≤ 300) :
    cutsF first ((al.take 20).drop i) nx out = cutsF first ((al.take 20).drop (i + 1)) (cutF nx x).2.1 (out ++ numL first out.length (cutF nx x).1) := by
  have hil := (List.getElem?_eq_some_iff.1 hx).1
  have e : (al.take 20).drop i = x :: (al.take 20).drop (i + 1) := by
    rw [List.drop_eq_getElem_cons (by rw [List.length_take]; omega)]
    congr 1
    rw [List.getElem_take]
    exact (List.getElem?_eq_some_iff.1 hx).2
  rw [e]
  conv => lhs; unfold cutsF
  rw [if_neg (by rintro (h | h); exact h h0; omega)]
theorem numL_take_succ (first : Int) (o : Nat) {l : List A} {k : Nat} {y : A} (h : l[k]? = some y) : numL first o (l.take (k + 1)) = numL first o (l.take k) ++ [{ y with tsn := stp first ((o + k : Nat) : Int) }] := by
  have hk := (List.getElem?_eq_some_iff.1 h).1
  rw [List.take_add_one, h, Option.toList_some, numL_snoc, List.length_take, Nat.min_eq_left (by omega)]

set_option maxRecDepth 100000 in
set_option maxHeartbeats 16000000 in
theorem cut20 (w : World) (v : Value) (al : List C) (hv : ReadsC w v al) (hok : ∀ a ∈ al, a.ok) (first : Int) (hf : isU32 first) : Calls Try.prog 20 #[v, .int .u32 first] w (CutIs w first al) := by
  obtain ⟨W0, hW0⟩ : ∃ W0, w = W0 := ⟨w, rfl⟩
  rw [hW0] at hv ⊢
  obtain ⟨p, c, rfl, h1, h2, h3⟩ := hv
  obtain ⟨n, hn⟩ : ∃ n, al.length = n := ⟨_, rfl⟩
  rw [hn] at h1 ⊢
  have HN := Lib.hid hn
  have H3 := Lib.hid h3
  have HOK := Lib.hid hok
  have HF := Lib.hid hf
  have hnm : n ≤ 9223372036854775807 := by unfold maxLen at h2; omega
  have hf1 : 0 ≤ first := hf.1
  have hf2 : first ≤ 4294967295 := hf.2
  clear hW0 hn h3 h1 h2 hok hf
  go_enter Try.func20, Try.ntmps20
  go_upto_region 4 with ((with_reducible refine wpl_boxAt rfl 29 (.tmp 12) rfl (nxA fun _ => 0) ?_ ?_); rfl; go_must (intro w2 hat2 hb2 hs2; have HA2 := Lib.hid hat2; have HB2 := Lib.hid hb2; clear hat2 hb2 hs2))
  obtain ⟨gC, hgC⟩ : ∃ gC, W0.heap.size = gC := ⟨_, rfl⟩
  have HGC := Lib.hid hgC
  rw [hgC] at HA2 ⊢
  clear hgC
  go_loopw [7, 8] (fun vo vi wr => ∃ (i : Nat) (nx : Nat → Int) (out : List A), vi = .int .i64 (i : Int) ∧ Hid (i ≤ n ∧ i ≤ 20 ∧ out.length ≤ 300) ∧ Hid (nxOk nx) ∧ Hid (cutsF first (al.take 20) (fun _ => 0) [] = cutsF first ((al.take 20).drop i) nx out) ∧ Hid (OwnQ W0.heap.size wr vo out) ∧ Hid (At wr gC 29 (nxA nx)) ∧ Hid (Below W0.heap.size W0 wr)) (fun _ vi _ => 20 - (intOf vi).toNat)
  case atStart => exact ⟨0, fun _ => 0, [], rfl, ⟨Nat.zero_le _, by omega, by simp⟩, fun _ => ⟨show (0 : Int) ≤ 0 by decide, show (0 : Int) ≤ 65535 by decide⟩, rfl, OwnQ.nil _ _, HA2.out, HB2.out⟩
  case round =>
    clear HA2 HB2
    obtain ⟨i, nx, out, rfl, HI, HNX, HEQ, HO, HA, HBL⟩ := hrel
    obtain ⟨po, co, hvo, _⟩ := HO.out.shape
    subst hvo
    obtain ⟨o, ho⟩ : ∃ o, out.length = o := ⟨_, rfl⟩
    rw [ho] at HI HO ⊢
    have HOL := Lib.hid ho
    have ho3 : o ≤ 300 := by rw [← ho]; have := HI.out.2.2; omega
    clear ho
    by_cases hlt : i < n
    · have hltz : (i : Int) < (n : Int) := by omega
      have hltb : decide ((i : Int) < (n : Int)) = true := decide_eq_true hltz
      by_cases hl2 : i < 20
      · have hl2z : (i : Int) < 20 := by omega
        have hl2b : decide ((i : Int) < 20) = true := decide_eq_true hl2z
        obtain ⟨ce, hx⟩ : ∃ ce, al[i]? = some ce := ⟨al[i]'(by rw [HN.out]; exact hlt), by simp⟩
        have HXM := Lib.hid hx
        have HXO := Lib.hid (HOK.out ce (List.mem_of_getElem? hx))
        obtain ⟨b, off, d, rfl, hb, hra, hrd⟩ := H3.out i ce hx
        have HRA := Lib.hid (range_below hra HBL.out hb)
        have HBG := Lib.hid (show ¬ b = gC by have := HGC.out; omega)
        obtain ⟨pd, cd, hd, _⟩ := id hrd
        subst hd
        have HRDX := Lib.hid (fun y (hy : ButX (fun k => k = gC) wr y) => reads_but2 (hrd.below HBL.out) hy (fun h0 q hq e => by have := lt_reads hrd h0 q hq; have := HGC.out; omega))
        obtain ⟨L, hL⟩ : ∃ L, ce.data.length = L := ⟨_, rfl⟩
        have HL := Lib.hid hL
        have HBLT := Lib.hid (Nat.lt_of_lt_of_le hb HBL.out.size)
        rw [hL] at HRA HRDX
        have hni : ¬ n ≤ i := by omega
        clear hx hb hra hrd hL
        obtain ⟨er, her⟩ : ∃ er, (cutF nx ce).2.2 = er := ⟨_, rfl⟩
        have HER := Lib.hid her
        clear her
        go_upto_region 6 with fail
        refine MonoU.wp_region_U [some 25, some 26, some 27, some 28, some 29, some 30, some 31, some 32, some 33, some 34, some 35, some 36, some 37, some 38, some 39, some 40, some 41, some 24, some 42, some 43, some 9, some 10] [some (.pointer (some ⟨gC, 0, none⟩)), some (.slice (some ⟨b, off, none⟩) n c), some (.int .i64 (i : Int)), some (.pointer (some ⟨b, off + i * 4, none⟩)), some (.pointer (some ⟨b, off + i * 4, none⟩)), some (.agg #[.int .u16 ce.s, .slice pd L cd]), some (.slice (some ⟨b, off, none⟩) n c), some (.int .i64 (i : Int)), some (.pointer (some ⟨b, off + i * 4, none⟩)), some (.pointer (some ⟨b, off + i * 4 + 2, none⟩)), some (.bool ce.un), some (.slice (some ⟨b, off, none⟩) n c), some (.int .i64 (i : Int)), some (.pointer (some ⟨b, off + i * 4, none⟩)), some (.pointer (some ⟨b, off + i * 4 + 3, none⟩)), some (.int .i64 ce.z), none, none, none, none, none, none] (MonoU.JC (fun x => ButX (fun k => k = gC) wr x) (fun x => At x gC 29 (nxA nx)) (fun v r y => r = .int .i64 er ∧ OwnQ W0.heap.size y v (cutF nx ce).1 ∧ At y gC 29 (nxA (cutF nx ce).2.1) ∧ (∀ q, v.ownBlock = some q → wr.heap.size ≤ q)) 16) (by kernel_rfl) (by kernel_rfl) (by kernel_rfl) (fun _ => undef) ?_ ?_ ?_
        · exact MonoU.JC.start _ _ (ButX.ofBelow (Below.refl _ _).drew) (HA.out.drew)
        · simp only [MonoU.OpGoals, and_true]
          refine ⟨?_, ?_, ?_, ?_, ?_, ?_, ?_, ?_, ?_, ?_, ?_, ?_, ?_, ?_, ?_, ?_, ?_, ?_, ?_, ?_, ?_, ?_⟩
          · intro l u a x hJ hsz hjn hdep hsame hval hfresh
            have hR := range_but HRA.out hJ.mid HBLT.out HBG.out; have c2 := hR 2 _ rfl; have c3 := hR 3 _ rfl
            have z6 : a.eval (.tmp 6) = .pointer (some ⟨gC, 0, none⟩) := hsame 6 (by decide)
            simp [Act.eval] at z6
            exact wp_val (.pointer (some ⟨gC, 0, none⟩)) x (by simp [execOp, z6, go_sem, c2, c3, hni]) ⟨_, rfl, (fun c e => by cases e; rfl), hJ.pure 0 _ (by decide)⟩
          · intro l u a x hJ hsz hjn hdep hsame hval hfresh
            have hR := range_but HRA.out hJ.mid HBLT.out HBG.out; have c2 := hR 2 _ rfl; have c3 := hR 3 _ rfl
            have z0 : a.eval (.tmp 0) = .slice (some ⟨b, off, none⟩) n c := hsame 0 (by decide)
            simp [Act.eval] at z0
            exact wp_val (.slice (some ⟨b, off, none⟩) n c) x (by simp [execOp, z0, go_sem, c2, c3, hni]) ⟨_, rfl, (fun c e => by cases e; rfl), hJ.pure 1 _ (by decide)⟩
          · intro l u a x hJ hsz hjn hdep hsame hval hfresh
            have hR := range_but HRA.out hJ.mid HBLT.out HBG.out; have c2 := hR 2 _ rfl; have c3 := hR 3 _ rfl
            have z8 : a.eval (.tmp 8) = .int .i64 (i : Int) := hsame 8 (by decide)
            simp [Act.eval] at z8
            exact wp_val (.int .i64 (i : Int)) x (by simp [execOp, z8, go_sem, c2, c3, hni]) ⟨_, rfl, (fun c e => by cases e; rfl), hJ.pure 2 _ (by decide)⟩
          · intro l u a x hJ hsz hjn hdep hsame hval hfresh
            have hR := range_but HRA.out hJ.mid HBLT.out HBG.out; have c2 := hR 2 _ rfl; have c3 := hR 3 _ rfl
            have z26 : a.eval (.tmp 26) = .slice (some ⟨b, off, none⟩) n c := hval 1 26 (hdep ⟨1, .data⟩ (by simp) rfl) rfl
            have z27 : a.eval (.tmp 27) = .int .i64 (i : Int) := hval 2 27 (hdep ⟨2, .data⟩ (by simp) rfl) rfl
            simp [Act.eval] at z26 z27
            exact wp_val (.pointer (some ⟨b, off + i * 4, none⟩)) x (by simp [execOp, z26, z27, go_sem, c2, c3, hni]) ⟨_, rfl, (fun c e => by cases e; rfl), hJ.pure 3 _ (by decide)⟩
          · intro l u a x hJ hsz hjn hdep hsame hval hfresh
            have hR := range_but HRA.out hJ.mid HBLT.out HBG.out; have c2 := hR 2 _ rfl; have c3 := hR 3 _ rfl
            have z28 : a.eval (.tmp 28) = .pointer (some ⟨b, off + i * 4, none⟩) := hval 3 28 (hdep ⟨3, .data⟩ (by simp) rfl) rfl
            simp [Act.eval] at z28
            exact wp_val (.pointer (some ⟨b, off + i * 4, none⟩)) x (by simp [execOp, z28, go_sem, c2, c3, hni]) ⟨_, rfl, (fun c e => by cases e; rfl), hJ.pure 4 _ (by decide)⟩
          · intro l u a x hJ hsz hjn hdep hsame hval hfresh
            have hR := range_but HRA.out hJ.mid HBLT.out HBG.out; have c2 := hR 2 _ rfl; have c3 := hR 3 _ rfl
            have z29 : a.eval (.tmp 29) = .pointer (some ⟨b, off + i * 4, none⟩) := hval 4 29 (hdep ⟨4, .data⟩ (by simp) rfl) rfl
            have hr := run_loadVar_mid (P := Try.prog) x b (off + i * 4) 32 [.int .u16 ce.s, .slice pd L cd] _ (head_rowC hR) Try.underlying32 rfl (by kernel_rfl)
            exact wp_loadV 32 (.tmp 29) rfl _ (.agg #[.int .u16 ce.s, .slice pd L cd]) z29 (by simp only [Instr.loadAt, Instr.sureAddr, Sem.run_bind, Sem.run_pure, Result.andThen_ok, hr]) ⟨_, rfl, (fun c e => by cases e; rfl), hJ.pure 5 _ (by decide)⟩
          · intro l u a x hJ hsz hjn hdep hsame hval hfresh
            have hR := range_but HRA.out hJ.mid HBLT.out HBG.out; have c2 := hR 2 _ rfl; have c3 := hR 3 _ rfl
            have z0 : a.eval (.tmp 0) = .slice (some ⟨b, off, none⟩) n c := hsame 0 (by decide)
            simp [Act.eval] at z0
            exact wp_val (.slice (some ⟨b, off, none⟩) n c) x (by simp [execOp, z0, go_sem, c2, c3, hni]) ⟨_, rfl, (fun c e => by cases e; rfl), hJ.pure 6 _ (by decide)⟩
          · intro l u a x hJ hsz hjn hdep hsame hval hfresh
            have hR := range_but HRA.out hJ.mid HBLT.out HBG.out; have c2 := hR 2 _ rfl; have c3 := hR 3 _ rfl
            have z8 : a.eval (.tmp 8) = .int .i64 (i : Int) := hsame 8 (by decide)
            simp [Act.eval] at z8
            exact wp_val (.int .i64 (i : Int)) x (by simp [execOp, z8, go_sem, c2, c3, hni]) ⟨_, rfl, (fun c e => by cases e; rfl), hJ.pure 7 _ (by decide)⟩
          · intro l u a x hJ hsz hjn hdep hsame hval hfresh
            have hR := range_but HRA.out hJ.mid HBLT.out HBG.out; have c2 := hR 2 _ rfl; have c3 := hR 3 _ rfl
            have z31 : a.eval (.tmp 31) = .slice (some ⟨b, off, none⟩) n c := hval 6 31 (hdep ⟨6, .data⟩ (by simp) rfl) rfl
            have z32 : a.eval (.tmp 32) = .int .i64 (i : Int) := hval 7 32 (hdep ⟨7, .data⟩ (by simp) rfl) rfl
            simp [Act.eval] at z31 z32
            exact wp_val (.pointer (some ⟨b, off + i * 4, none⟩)) x (by simp [execOp, z31, z32, go_sem, c2, c3, hni]) ⟨_, rfl, (fun c e => by cases e; rfl), hJ.pure 8 _ (by decide)⟩
          · intro l u a x hJ hsz hjn hdep hsame hval hfresh
            have hR := range_but HRA.out hJ.mid HBLT.out HBG.out; have c2 := hR 2 _ rfl; have c3 := hR 3 _ rfl
            have z33 : a.eval (.tmp 33) = .pointer (some ⟨b, off + i * 4, none⟩) := hval 8 33 (hdep ⟨8, .data⟩ (by simp) rfl) rfl
            simp [Act.eval] at z33
            exact wp_val (.pointer (some ⟨b, off + i * 4 + 2, none⟩)) x (by simp [execOp, z33, go_sem, c2, c3, hni]) ⟨_, rfl, (fun c e => by cases e; rfl), hJ.pure 9 _ (by decide)⟩
          · intro l u a x hJ hsz hjn hdep hsame hval hfresh
            have hR := range_but HRA.out hJ.mid HBLT.out HBG.out; have c2 := hR 2 _ rfl; have c3 := hR 3 _ rfl
            have z34 : a.eval (.tmp 34) = .pointer (some ⟨b, off + i * 4 + 2, none⟩) := hval 9 34 (hdep ⟨9, .data⟩ (by simp) rfl) rfl
            simp [Act.eval] at z34
            exact wp_val (.bool ce.un) x (by simp [execOp, z34, go_sem, c2, c3, hni]) ⟨_, rfl, (fun c e => by cases e; rfl), hJ.pure 10 _ (by decide)⟩
          · intro l u a x hJ hsz hjn hdep hsame hval hfresh
            have hR := range_but HRA.out hJ.mid HBLT.out HBG.out; have c2 := hR 2 _ rfl; have c3 := hR 3 _ rfl
            have z0 : a.eval (.tmp 0) = .slice (some ⟨b, off, none⟩) n c := hsame 0 (by decide)
            simp [Act.eval] at z0
            exact wp_val (.slice (some ⟨b, off, none⟩) n c) x (by simp [execOp, z0, go_sem, c2, c3, hni]) ⟨_, rfl, (fun c e => by cases e; rfl), hJ.pure 11 _ (by decide)⟩
          · intro l u a x hJ hsz hjn hdep hsame hval hfresh
            have hR := range_but HRA.out hJ.mid HBLT.out HBG.out; have c2 := hR 2 _ rfl; have c3 := hR 3 _ rfl
            have z8 : a.eval (.tmp 8) = .int .i64 (i : Int) := hsame 8 (by decide)
            simp [Act.eval] at z8
            exact wp_val (.int .i64 (i : Int)) x (by simp [execOp, z8, go_sem, c2, c3, hni]) ⟨_, rfl, (fun c e => by cases e; rfl), hJ.pure 12 _ (by decide)⟩
          · intro l u a x hJ hsz hjn hdep hsame hval hfresh
            have hR := range_but HRA.out hJ.mid HBLT.out HBG.out; have c2 := hR 2 _ rfl; have c3 := hR 3 _ rfl
            have z36 : a.eval (.tmp 36) = .slice (some ⟨b, off, none⟩) n c := hval 11 36 (hdep ⟨11, .data⟩ (by simp) rfl) rfl
            have z37 : a.eval (.tmp 37) = .int .i64 (i : Int) := hval 12 37 (hdep ⟨12, .data⟩ (by simp) rfl) rfl
            simp [Act.eval] at z36 z37
            exact wp_val (.pointer (some ⟨b, off + i * 4, none⟩)) x (by simp [execOp, z36, z37, go_sem, c2, c3, hni]) ⟨_, rfl, (fun c e => by cases e; rfl), hJ.pure 13 _ (by decide)⟩
          · intro l u a x hJ hsz hjn hdep hsame hval hfresh
            have hR := range_but HRA.out hJ.mid HBLT.out HBG.out; have c2 := hR 2 _ rfl; have c3 := hR 3 _ rfl
            have z38 : a.eval (.tmp 38) = .pointer (some ⟨b, off + i * 4, none⟩) := hval 13 38 (hdep ⟨13, .data⟩ (by simp) rfl) rfl
            simp [Act.eval] at z38
            exact wp_val (.pointer (some ⟨b, off + i * 4 + 3, none⟩)) x (by simp [execOp, z38, go_sem, c2, c3, hni]) ⟨_, rfl, (fun c e => by cases e; rfl), hJ.pure 14 _ (by decide)⟩
          · intro l u a x hJ hsz hjn hdep hsame hval hfresh
            have hR := range_but HRA.out hJ.mid HBLT.out HBG.out; have c2 := hR 2 _ rfl; have c3 := hR 3 _ rfl
            have z39 : a.eval (.tmp 39) = .pointer (some ⟨b, off + i * 4 + 3, none⟩) := hval 14 39 (hdep ⟨14, .data⟩ (by simp) rfl) rfl
            simp [Act.eval] at z39
            exact wp_val (.int .i64 ce.z) x (by simp [execOp, z39, go_sem, c2, c3, hni]) ⟨_, rfl, (fun c e => by cases e; rfl), hJ.pure 15 _ (by decide)⟩
          · intro l u a x hJ hsz hjn hdep hsame hval hfresh
            have hR := range_but HRA.out hJ.mid HBLT.out HBG.out; have c2 := hR 2 _ rfl; have c3 := hR 3 _ rfl
            have z25 : a.eval (.tmp 25) = .pointer (some ⟨gC, 0, none⟩) := hval 0 25 (hdep ⟨0, .data⟩ (by simp) rfl) rfl
            have z30 : a.eval (.tmp 30) = .agg #[.int .u16 ce.s, .slice pd L cd] := hval 5 30 (hdep ⟨5, .data⟩ (by simp) rfl) rfl
            have z35 : a.eval (.tmp 35) = .bool ce.un := hval 10 35 (hdep ⟨10, .data⟩ (by simp) rfl) rfl
            have z40 : a.eval (.tmp 40) = .int .i64 ce.z := hval 15 40 (hdep ⟨15, .data⟩ (by simp) rfl) rfl
            simp [Act.eval] at z25 z30 z35 z40
            have hpre := hJ.pre (MonoU.getD_false hjn)
            have hmid := hJ.mid
            have hcall : Calls Try.prog 12 #[.pointer (some ⟨gC, 0, none⟩), .agg #[.int .u16 ce.s, .slice pd L cd], .bool ce.un, .int .i64 ce.z] x (fun e y => ∃ v r, e = .returned (.tuple #[v, r]) ∧ (fun x => ButX (fun k => k = gC) wr x) y ∧ (fun v r y => r = .int .i64 er ∧ OwnQ W0.heap.size y v (cutF nx ce).1 ∧ At y gC 29 (nxA (cutF nx ce).2.1) ∧ (∀ q, v.ownBlock = some q → wr.heap.size ≤ q)) v r y) := (rcut_own x gC nx hpre HNX.out ce _ (HRDX.out x hmid) HXO.out).mono (fun e y ⟨v, k1, k2, k3, k4⟩ => ⟨v, .int .i64 er, by rw [k1, HER.out], hmid.trans (k4.mono more_self), rfl, OwnQ.mono k2 (Nat.le_trans HBL.out.size hmid.size), k3, fun q hq => Nat.le_trans hmid.size (q_lt k2 q hq).1⟩)
            exact wp_callF 12 _ _ rfl #[.pointer (some ⟨gC, 0, none⟩), .agg #[.int .u16 ce.s, .slice pd L cd], .bool ce.un, .int .i64 ce.z] (by simp [execOp, z25, z30, z35, z40, go_sem]) (hcall.mono fun e y ⟨v, r, h1, h2, h3⟩ => ⟨_, h1, _, rfl, (fun c e => by cases e), hJ.call (by rw [hsz]; decide) (MonoU.getD_false hjn) v r h2 h3⟩)
          · intro l u a x hJ hsz hjn hdep hsame hval hfresh
            have z41 : a.eval (.tmp 41) = u 16 := hval 16 41 (hdep ⟨16, .data⟩ (by simp) rfl) rfl
            have hd : l.getD 16 false = true := hdep ⟨16, .data⟩ (by simp) rfl
            obtain ⟨v, r, p0, p1, q1, q2, q3, _, _⟩ := hJ.post hd
            rw [p0] at z41
            simp [Act.eval] at z41
            exact wp_val (.tuple #[v, r]) x (by simp [execOp, z41, go_sem]) ⟨_, rfl, (fun c e => by cases e), hJ.step 1 _ (by decide) (by rw [hsz]; decide) hd (fun v2 r2 f0 f1 f2 f3 => by rw [p0] at f0; cases f0; exact ⟨fun e => (by first | rfl | cases e), fun e => (by first | rfl | cases e), fun e => (by first | rfl | cases e), fun e => (by first | rfl | cases e), fun e => (by first | rfl | cases e)⟩)⟩
          · intro l u a x hJ hsz hjn hdep hsame hval hfresh
            have z24 : a.eval (.tmp 24) = u 17 := hval 17 24 (hdep ⟨17, .data⟩ (by simp) rfl) rfl
            have hd : l.getD 17 false = true := hdep ⟨17, .data⟩ (by simp) rfl
            obtain ⟨v, r, p0, p1, q1, q2, q3, _, _⟩ := hJ.post (hJ.ord 17 (by decide) hd)
            rw [q1 hd] at z24
            simp [Act.eval] at z24
            exact wp_val (v) x (by simp [execOp, z24, go_sem]) ⟨_, rfl, (fun c e => by cases e), hJ.step 2 _ (by decide) (by rw [hsz]; decide) (hJ.ord 17 (by decide) hd) (fun v2 r2 f0 f1 f2 f3 => by rw [p0] at f0; cases f0; exact ⟨fun e => (by first | rfl | cases e), fun e => (by first | rfl | cases e), fun e => (by first | rfl | cases e), fun e => (by first | rfl | cases e), fun e => (by first | rfl | cases e)⟩)⟩
          · intro l u a x hJ hsz hjn hdep hsame hval hfresh
            have z24 : a.eval (.tmp 24) = u 17 := hval 17 24 (hdep ⟨17, .data⟩ (by simp) rfl) rfl
            have hd : l.getD 17 false = true := hdep ⟨17, .data⟩ (by simp) rfl
            obtain ⟨v, r, p0, p1, q1, q2, q3, _, _⟩ := hJ.post (hJ.ord 17 (by decide) hd)
            rw [q1 hd] at z24
            simp [Act.eval] at z24
            exact wp_val (r) x (by simp [execOp, z24, go_sem]) ⟨_, rfl, (fun c e => by cases e), hJ.step 3 _ (by decide) (by rw [hsz]; decide) (hJ.ord 17 (by decide) hd) (fun v2 r2 f0 f1 f2 f3 => by rw [p0] at f0; cases f0; exact ⟨fun e => (by first | rfl | cases e), fun e => (by first | rfl | cases e), fun e => (by first | rfl | cases e), fun e => (by first | rfl | cases e), fun e => (by first | rfl | cases e)⟩)⟩
          · intro l u a x hJ hsz hjn hdep hsame hval hfresh
            have z42 : a.eval (.tmp 42) = u 18 := hval 18 42 (hdep ⟨18, .data⟩ (by simp) rfl) rfl
            have hd : l.getD 18 false = true := hdep ⟨18, .data⟩ (by simp) rfl
            obtain ⟨v, r, p0, p1, q1, q2, q3, _, _⟩ := hJ.post (hJ.ord 18 (by decide) hd)
            rw [q2 hd] at z42
            simp [Act.eval] at z42
            exact wp_val (v) x (by simp [execOp, z42, go_sem]) ⟨_, rfl, (fun c e => by cases e), hJ.step 4 _ (by decide) (by rw [hsz]; decide) (hJ.ord 18 (by decide) hd) (fun v2 r2 f0 f1 f2 f3 => by rw [p0] at f0; cases f0; exact ⟨fun e => (by first | rfl | cases e), fun e => (by first | rfl | cases e), fun e => (by first | rfl | cases e), fun e => (by first | rfl | cases e), fun e => (by first | rfl | cases e)⟩)⟩
          · intro l u a x hJ hsz hjn hdep hsame hval hfresh
            have z43 : a.eval (.tmp 43) = u 19 := hval 19 43 (hdep ⟨19, .data⟩ (by simp) rfl) rfl
            have hd : l.getD 19 false = true := hdep ⟨19, .data⟩ (by simp) rfl
            obtain ⟨v, r, p0, p1, q1, q2, q3, _, _⟩ := hJ.post (hJ.ord 19 (by decide) hd)
            rw [q3 hd] at z43
            simp [Act.eval] at z43
            exact wp_val (r) x (by simp [execOp, z43, go_sem]) ⟨_, rfl, (fun c e => by cases e), hJ.step 5 _ (by decide) (by rw [hsz]; decide) (hJ.ord 19 (by decide) hd) (fun v2 r2 f0 f1 f2 f3 => by rw [p0] at f0; cases f0; exact ⟨fun e => (by first | rfl | cases e), fun e => (by first | rfl | cases e), fun e => (by first | rfl | cases e), fun e => (by first | rfl | cases e), fun e => (by first | rfl | cases e)⟩)⟩
        intro u3 w3 hJ3
        obtain ⟨v9, r9, f1, ⟨hr9, hl3, hA3, hq3⟩, f2, f3, f4, e4, e5⟩ := hJ3.post rfl
        clear f1 f2 f3 f4
        subst hr9
        have HB3 := Lib.hid hJ3.mid
        have HL3 := Lib.hid hl3
        have HA3 := Lib.hid hA3
        have HO3 := Lib.hid (q_but HO.out hJ3.mid (fun q T cs hc hT e => by have h1 : At wr gC T cs := by rw [← e]; exact hc
                                                                            exact at_ne h1 HA.out (by rcases hT with rfl | rfl <;> decide) rfl))
        have HNE3 := Lib.hid (fun q (hq : (Value.slice po o co).ownBlock = some q) (e : v9.ownBlock = some q) => show False from by have := hq3 q e; have := (q_lt HO.out q hq).2; omega)
        simp [Act.put, MonoU.pick]
        rw [e4 rfl, e5 rfl]
        clear e4 e5 hJ3 hl3 hA3 hq3
        have HNX3 := Lib.hid (cutF_ok HNX.out ce)
        have HB3' : Hid (Below W0.heap.size W0 w3) := HBL.out.trans (HB3.out.below (fun k e => by rw [e, ← HGC.out]; exact Nat.le_refl _) HBL.out.size)
        have HBT : Hid (Below W0.heap.size W0 w3) := HB3'
        clear HBL HA HO HRA HRDX HB3 HB3'
        by_cases he : er = 0
        · subst he
          obtain ⟨p9, c9, hv9, _⟩ := HL3.out.shape
          subst hv9
          obtain ⟨m, hm⟩ : ∃ m, (cutF nx ce).1.length = m := ⟨_, rfl⟩
          have HM := Lib.hid hm
          have hml : m ≤ 4096 ∧ 0 < m := hm ▸ cutF_len HXO.out HER.out
          have hm1 : m ≤ 4096 := hml.1
          have hm2 : 0 < m := hml.2
          rw [hm] at HL3 ⊢
          obtain ⟨g9, c9', e9, _, _, _, _⟩ := HL3.out.block (by rw [HM.out]; exact hm2)
          rw [HM.out] at e9
          cases e9
          clear hm hml
          by_cases hg : o + m ≤ 300
          · have hgz : ¬ (300 : Int) < (o : Int) + (m : Int) := by omega
            have hgb : decide ((300 : Int) < (o : Int) + (m : Int)) = false := decide_eq_false hgz
            go_upto_region 10 with fail
            go_loopw [7, 11] (fun vo vk wr2 => ∃ (k : Nat) (lk : List A), vk = .int .i64 (k : Int) ∧ Hid (k ≤ m ∧ lk.length = m) ∧ Hid (∀ q, k ≤ q → lk[q]? = (cutF nx ce).1[q]?) ∧ Hid (OwnQ W0.heap.size wr2 (.slice (some ⟨g9, 0, none⟩) m c9) lk) ∧ Hid (OwnQ W0.heap.size wr2 vo (out ++ numL first o ((cutF nx ce).1.take k))) ∧ Hid (∀ q, vo.ownBlock = some q → q ≠ g9) ∧ Hid (At wr2 gC 29 (nxA (cutF nx ce).2.1)) ∧ Hid (Below W0.heap.size W0 wr2)) (fun _ vk _ => m - (intOf vk).toNat)
            case atStart => exact ⟨0, (cutF nx ce).1, rfl, ⟨by omega, HM.out⟩, fun _ _ => rfl, HL3.out, (show OwnQ W0.heap.size w3 (.slice po o co) _ from by rw [List.take_zero]; simpa [numL] using HO3.out), fun q hq e => HNE3.out q hq (by rw [e]; rfl), HA3.out, HBT.out⟩
            case round =>
              clear HL3 HO3 HNE3 HA3 HBT
              obtain ⟨k, lk, rfl, HK, HLK, HLr, HOr, HNr, HAr, HBr⟩ := hrel
              have holen : (out ++ numL first o ((cutF nx ce).1.take k)).length = o + k := by rw [List.length_append, numL_length, List.length_take, HOL.out, HM.out, Nat.min_eq_left HK.out.1]
              obtain ⟨pk, ck, hvk, _⟩ := HOr.out.shape
              rw [holen] at hvk
              subst hvk
              have HOLK := Lib.hid holen
              have hkm : k ≤ m := HK.out.1
              clear holen
              by_cases hk : k < m
              · have hkz : (k : Int) < (m : Int) := by omega
                have hkb : decide ((k : Int) < (m : Int)) = true := decide_eq_true hkz
                have hnk : ¬ m ≤ k := by omega
                obtain ⟨y, hy⟩ : ∃ y, (cutF nx ce).1[k]? = some y := ⟨(cutF nx ce).1[k]'(by rw [HM.out]; exact hk), by simp⟩
                have HY := Lib.hid hy
                obtain ⟨w4, hrun4, hl4, hg4⟩ := storeT_run HLr.out y ((HLK.out k (Nat.le_refl _)).trans hy) (stp first ((o + k : Nat) : Int))
                have HRUN4 := Lib.hid hrun4
                clear hy hrun4
                go_upto_region 12 with fail
                go_upto_region 13 with ((with_reducible refine wpl_storeV rfl 43 (.tmp 68) (.tmp 66) rfl rfl (.pointer (some ⟨g9, k * 7, none⟩)) (.int .u32 (stp first ((o + k : Nat) : Int))) w4 ?_ ?_ HRUN4.out ?_); rfl; (refine congrArg (Value.int .u32) ?_; unfold stp; rw [Bx.wrap32, Int.natCast_add]))
                have ho4 := q_other HOr.out HLr.out hg4 (fun q e e2 => by cases e; exact HNr.out _ e2 rfl)
                have ha4 := HAr.out.kept' hg4 (fun e => by have := (q_lt HLr.out g9 rfl).1; have := Option.some.inj e; have h9 := own_at_ne HLr.out HAr.out (by decide); exact h9 (by rw [← this]; rfl))
                have hb4 : Below W0.heap.size W0 w4 := below_grown HBr.out hg4 HBr.out.size (q_lt HLr.out g9 rfl).1
                obtain ⟨y', hy'⟩ : ∃ y' : A, { y with tsn := stp first ((o + k : Nat) : Int) } = y' := ⟨_, rfl⟩
                rw [hy'] at hl4
                obtain ⟨pa, ma, hra4, hrow4⟩ := OwnQ.elem hl4 k y' (by rw [List.getElem?_set, if_pos rfl, if_pos (by have := HK.out.2; omega)])
                obtain ⟨ym, hym⟩ : ∃ ym, y'.data.length = ym := ⟨_, rfl⟩
                rw [hym] at hra4 hrow4
                have hal : Below w4.heap.size w4 (w4.alloc (.cells (row y' (.slice pa ym ma)).toArray 45)) := (Below.refl _ _).alloc (Nat.le_refl _) _
                have hat5 := At.new w4 45 (row y' (.slice pa ym ma)).toArray
                have hbld := build35 y' (.slice pa ym ma) w4
                obtain ⟨w5, hw5⟩ : ∃ w5, w4.alloc (.cells (row y' (.slice pa ym ma)).toArray 45) = w5 := ⟨_, rfl⟩
                rw [hw5] at hal hat5 hbld
                have hb5 := hb4.trans (hal.mono hb4.size)
                obtain ⟨v6, w6, hrun6, ho6, hg6, hbk6⟩ := run_append1_at (m := 1) (ho4.below hal) y' (.slice pa ym ma) hat5 (Row.below hrow4 hal) hb5.size (by rw [HOLK.out]; omega)
                have hl6 := q_other (hl4.below hal) (ho4.below hal) hg6 (fun q e e2 => by cases e2; exact HNr.out _ e rfl)
                have ha6 := (ha4.ext hal).kept' hg6 (own_at_ne (ho4.below hal) (ha4.ext hal) (by decide))
                have hb6 : Below W0.heap.size W0 w6 := hb5.grown hg6 hb5.size (fun q e => (q_lt HOr.out q e).1)
                have HR9 := Lib.hid hra4
                have HBLD := Lib.hid hbld
                have HRUN6 := Lib.hid hrun6
                have HO6 := Lib.hid ho6
                have HL6 := Lib.hid hl6
                have HA6 := Lib.hid ha6
                have HB6 := Lib.hid hb6
                have HNE6 : Hid (∀ q, v6.ownBlock = some q → q ≠ g9) := fun q e => by
                  have := (q_lt hl4 g9 rfl).2
                  have := hal.size
                  rcases hbk6 with h | h
                  · exact HNr.out q (by rw [← h]; exact e)
                  · rw [h] at e; cases e; omega
                have HY' := Lib.hid hy'
                clear hl4 hg4 ho4 ha4 hb4 hra4 hrow4 hy' hym hal hat5 hbld hw5 hb5 hrun6 ho6 hg6 hbk6 hl6 ha6 hb6 HRUN4
                go_wp2_with (first
                  | ((with_reducible refine wpl_loadE rfl 45 (.tmp 72) rfl g9 (k * 7) ?_ (row y' (.slice pa ym ma)).toArray _ HR9.out Try.underlying45 rfl (by kernel_rfl) ?_); rfl)
                  | ((with_reducible refine wpl_buildV rfl 35 (.tmp 73) rfl (.agg (row y' (.slice pa ym ma)).toArray) (.slice (some ⟨w4.heap.size, 0, none⟩) 1 1) w5 ?_ HBLD.out ?_); rfl)
                  | ((with_reducible refine wpl_appendV rfl 35 (.tmp 69) (.tmp 74) rfl (.slice pk (o + k) ck) (.slice (some ⟨w4.heap.size, 0, none⟩) 1 1) v6 w6 ?_ ?_ HRUN6.out ?_); rfl; rfl))
                go_roundw
                case rel =>
                  refine ⟨k + 1, lk.set k y', by go_num, ⟨by omega, by rw [List.length_set]; exact HK.out.2⟩, fun q hq => ?_, HL6.out, ?_, HNE6.out, HA6.out, HB6.out⟩
                  · rw [List.getElem?_set, if_neg (by omega)]
                    exact HLK.out q (by omega)
                  · show OwnQ _ _ _ _
                    rw [numL_take_succ first o HY.out, HY'.out, ← List.append_assoc]
                    exact HO6.out
                case measure => simp [intOf]; omega
              · have hkz : ¬ (k : Int) < (m : Int) := by omega
                have hkb : decide ((k : Int) < (m : Int)) = false := decide_eq_false hkz
                have hke : k = m := by omega
                have HO9 : Hid (OwnQ W0.heap.size wr (.slice pk (o + m) ck) (out ++ numL first o (cutF nx ce).1)) := by
                  have := HOr.out
                  rw [List.take_of_length_le (by rw [HM.out]; omega), hke] at this
                  exact this
                subst hke
                go_wp2_with fail
                refine ⟨⟨i + 1, (cutF nx ce).2.1, out ++ numL first o (cutF nx ce).1, by go_num, ⟨by omega, by omega, ?_⟩, HNX3.out, ?_, HO9.out, HAr.out, HBr.out⟩, by simp [intOf]; omega⟩
                · rw [List.length_append, numL_length, HM.out, HOL.out]; exact hg
                · rw [← HOL.out]
                  exact HEQ.out.trans (cutsF_step HXM.out hl2 HER.out (by rw [HOL.out, HM.out]; exact hg))
          · have hgz : (300 : Int) < (o : Int) + (m : Int) := by omega
            have hgb : decide ((300 : Int) < (o : Int) + (m : Int)) = true := decide_eq_true hgz
            go_wp2_with fail
            go_ret2
            exact ⟨_, _, rfl, HBT.out, fun e => by cases e⟩
        · have he1 : (er == 0) = false := by simpa using he
          have he2 : (er != 0) = true := by simpa using he
          go_wp2_with fail
          go_ret2
          exact ⟨_, _, rfl, HBT.out, fun e => by cases e⟩
      · have hl2z : ¬ (i : Int) < 20 := by omega
        have hl2b : decide ((i : Int) < 20) = false := decide_eq_false hl2z
        go_wp2_with fail
        go_ret2
        refine ⟨_, _, rfl, HBL.out, fun _ => ⟨out, ?_, HOL.out ▸ HO.out⟩⟩
        rw [HEQ.out, List.drop_of_length_le (by rw [List.length_take]; omega)]
        rfl
    · have hltz : ¬ (i : Int) < (n : Int) := by omega
      have hltb : decide ((i : Int) < (n : Int)) = false := decide_eq_false hltz
      go_wp2_with fail
      go_ret2
      refine ⟨_, _, rfl, HBL.out, fun _ => ⟨out, ?_, HOL.out ▸ HO.out⟩⟩
      rw [HEQ.out, List.drop_of_length_le (by rw [List.length_take, HN.out]; omega)]
      rfl
end Go.Proofs.Yteiiifonejkjbaa.Fa
