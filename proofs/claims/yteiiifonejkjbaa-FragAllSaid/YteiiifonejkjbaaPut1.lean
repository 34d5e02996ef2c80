/-
  Contract: Box.Put (16) of a piece that may come in.
-/
import Derived.Test.YteiiifonejkjbaaPut0
import Derived.StillTailTactics
namespace Go.Proofs.Yteiiifonejkjbaa.Bx
open Go.RowKit Mem Cells Ops Pcs Go.Maps Go.Proofs.Yteiiifonejkjbaa.Open
set_option linter.unusedVariables false
set_option linter.unusedSimpArgs false
attribute [local go_sem] Oper.semAt_some

theorem one45 (r : A) (q : Option Addr) (n c : Nat) : (row r (.slice q n c)).toArray.all (·.oneCell') = true := by simp [row, Value.oneCell']

theorem field45 (a : A) (q : Option Addr) (n c : Nat) (w : World) : (Instr.field 45 (.agg (row a (.slice q n c)).toArray) 6).run Try.prog w = .ok (.slice q n c) w := by kernel_rfl
theorem field32 (s : Int) (q : Option Addr) (n c : Nat) (w : World) : (Instr.field 32 (.agg #[.int .u16 s, .slice q n c]) 1).run Try.prog w = .ok (.slice q n c) w := by kernel_rfl
theorem wpStill_val {P : Program} {w : World} {ops : Array Oper} {rest : List Oper} {o : Oper} {a : Act} {Q : Act → Prop} (hgd : o.guard = none) (r : Value) (hrun : (execOp a.eval o).run P w = .ok (.value r) w)
    (h : wpStill P ops w Q rest (a.put o.dst r)) : wpStill P ops w Q (o :: rest) a := by
  refine wpStill_step fun K hK => ?_
  simp only [Region.wanted, hgd, if_true]
  unfold Oper.still
  simp only [hrun, Oper.stillUpon_value]
  exact hK _ h
theorem append30 {w : World} {B : Nat} {v u : Value} {xs ys : List Int} (hown : Row .u8 5 B w v xs) (hr : Reads .u8 w u ys) (h63 : xs.length + ys.length ≤ 140737488355328) (hB : B ≤ w.heap.size) :
    ∃ v' w', (Builtin.append_ #[30, 30] 30 #[v, u]).run Try.prog w = .ok v' w' ∧ Row .u8 5 B w' v' (xs ++ ys) ∧ w.grownBy w' v.ownBlock := by
  obtain ⟨i, hi, hz0, hz1, hz2⟩ := info_parts Chunk.info5
  obtain ⟨p, c, rfl, h1, h2, h3, h4⟩ := hr
  cases p with
  | none =>
    obtain rfl := h3 rfl
    have hy : ys = [] := List.eq_nil_of_length_eq_zero (by omega)
    subst hy
    exact ⟨v, w, run_append_owned_none (P := Try.prog) w B 30 30 5 i 1 Try.underlying30 hi v xs.length _ hown, by rw [List.append_nil]; exact hown, ⟨rfl, rfl, rfl, Nat.le_refl _, fun _ _ _ => rfl⟩⟩
  | some ad =>
    obtain ⟨v', w', hrun, h5, h6, _⟩ := run_append_own (P := Try.prog) w B 30 30 5 i _ 1 1 Try.underlying30 hi hz0 hz1 hz2 rfl (by omega) v xs.length _ hown ad ys.length c (ys.map (Value.int .u8)) (by simp) (by
      intro j q hj
      have hjl : j < ys.length := by
        rcases Nat.lt_or_ge j ys.length with h | h
        · exact h
        · simp [List.getElem?_eq_none (show (ys.map (Value.int .u8)).length ≤ j by simpa using h)] at hj
      obtain ⟨b, off, hp, _, hc⟩ := h4 (by omega)
      cases hp
      rw [add_none, hc j hjl]
      simp [List.getElem?_eq_getElem hjl] at hj
      subst hj
      simp [List.getD, List.getElem?_eq_getElem hjl]) (by
      intro q hq
      obtain ⟨_, _, rfl⟩ := List.mem_map.1 hq
      rfl) (by unfold maxLen; omega) (by omega) hB
    exact ⟨v', w', hrun, by simpa [Row] using h5, h6⟩
/-- A row of the call's own is written, of which the box knows nothing. -/
theorem Has.grownRow {w w' : World} {Z g b1 b2 : Nat} {x : S} {vs : Int → Value} {vw : Int → Int → Value} {m1 m2 : Lit → Option Value} (h : Has Z w g b1 b2 x vs vw m1 m2) {B : Nat} {v : Value} {us : List Int} (hg : w.grownBy w' v.ownBlock) (ho : Row .u8 5 B w v us)
    (h1 : ∀ a ∈ x.held, ∀ q, (vs a.tsn).ownBlock = some q → q < B) (h2 : ∀ y ∈ x.wait, ∀ q, (vw y.s y.q).ownBlock = some q → q < B) : Has Z w' g b1 b2 x vs vw m1 m2 := by
  cases hv : v.ownBlock with
  | none =>
    rw [hv] at hg
    exact h.below ⟨hg.os, hg.tape, hg.output, hg.size, fun i hi => hg.block i hi (by simp)⟩
  | some q =>
    obtain ⟨cur, hc⟩ := own_at ho hv
    have hlt := (ho.lt q hv).1
    rw [hv] at hg
    refine ⟨h.row.kept' hg (fun e => at_ne hc h.row (by decide) (Option.some.inj e)), h.map1.kept hg (fun e => h.map1.ne_at hc (Option.some.inj e)), h.map2.kept hg (fun e => h.map2.ne_at hc (Option.some.inj e)), h.ne, h.says1, h.says2,
      fun a ha => (h.rows1 a ha).kept hg (.inr (fun e => by have := h1 a ha q e; omega)), fun y hy => (h.rows2 y hy).kept hg (.inr (fun e => by have := h2 y hy q e; omega)), h.ok⟩
/-- Behind the append. -/
structure MidB (w0 : World) (B q10 : Nat) (s : Int) (mv : Value) (xs : List Int) (v : Value) (x : World) : Prop where
  grown : w0.grownBy x mv.ownBlock
  row : At x q10 32 #[.int .u16 s, mv]
  own : Row .u8 5 B x v xs
/-- Behind the store. -/
def FinB (w0 : World) (B q10 : Nat) (s : Int) (mv : Value) (xs : List Int) (v : Value) (x : World) : Prop := ∃ y, MidB w0 B q10 s mv xs v y ∧ y.grownBy x (some q10) ∧ At x q10 32 #[.int .u16 s, v]
theorem OwnG.mono {B B' : Nat} {w : World} {v : Value} {al : List G} (h : OwnG B w v al) (hB : B' ≤ B) : OwnG B' w v al := by
  obtain ⟨zs, h1, h2, h3⟩ := h
  refine ⟨zs, h1, ⟨h2.1, ?_⟩, h3⟩
  rcases h2.2 with hn | ⟨g, cap, cur, rfl, hbb, rest⟩
  · exact .inl hn
  · exact .inr ⟨g, cap, cur, rfl, by omega, rest⟩
theorem take_more {n : Nat} {h : List A} {t : Int} {acc : List Int} {a : A} (ha : getH h t = some a) : takeF (n + 1) h t acc = takeF n (rm h t) (nxt t) (acc ++ a.data) := by
  conv => lhs; unfold takeF
  unfold dataH
  rw [ha]

set_option maxRecDepth 100000 in
set_option maxHeartbeats 16000000 in
theorem putIn {w : World} {Z g b1 b2 : Nat} {x : S} {vs : Int → Value} {vw : Int → Int → Value} {f1 f2 : Lit → Option Value} (H : Has Z w g b1 b2 x vs vw f1 f2) (p : A) (d : Value) (hr : Reads .u8 w d p.data) (hin : inOk p) (hb : badF p = false) (hwl : x.wait.length ≤ 999990) (hZ : Z ≤ w.heap.size) :
    Calls Try.prog 16 #[.pointer (some ⟨g, 0, none⟩), .agg (row p d).toArray] w (PutIs Z w g b1 b2 x p) := by
  obtain ⟨pq, pc, hd, _⟩ := id hr
  subst hd
  obtain ⟨L, hL⟩ : ∃ L, p.data.length = L := ⟨_, rfl⟩
  have HL := Lib.hid hL
  have HIN := Lib.hid hin
  have hL0 : 0 < L := by have := hin.2.1; omega
  have hL2 : L ≤ 256 := by have := hin.2.2.1; omega
  have hs8 : p.stream < 8 := hin.2.2.2
  have hs0 : 0 ≤ p.stream := hin.1.2.1.1
  have hut : isU32 p.tsn := hin.1.1
  have HU := Lib.hid hut
  obtain ⟨W0, hW0⟩ : ∃ W0, w = W0 := ⟨w, rfl⟩
  rw [hL] at hr ⊢
  rw [hW0] at H hr ⊢
  have HR := Lib.hid hr
  have HH := Lib.hid H
  have HWL := Lib.hid hwl
  have HNB := Lib.hid hb
  have hlz : ((L : Int) == 0) = false := by simp; omega
  have hlb : ¬ (256 : Int) < (L : Int) := by omega
  have hlb2 : decide ((256 : Int) < (L : Int)) = false := decide_eq_false hlb
  have hsb : ¬ (8 : Int) ≤ p.stream := by omega
  have hsb2 : decide ((8 : Int) ≤ p.stream) = false := decide_eq_false hsb
  have HZ := Lib.hid (show Z ≤ W0.heap.size by rw [← hW0]; exact hZ)
  clear hL hin hr H hwl hb hW0 hut hZ
  go_enter Try.func16, Try.ntmps16
  go_upto_region 5 with ((with_reducible refine wpl_boxAt rfl 45 (.tmp 1) rfl (row p (.slice pq L pc)).toArray ?_ ?_); rfl; go_must (intro w1 hat1 hb1 hs1; have m0 := hat1.cell 0; have m1 := hat1.cell 1; have m6 := hat1.cell 6; simp [row] at m0 m1 m6; have HT1 := Lib.hid hat1; have HB1 := Lib.hid hb1; have HS1 := Lib.hid hs1; clear hat1 hb1 hs1))
  have HH1 := Lib.hid (HH.out.below HB1.out)
  obtain ⟨r, rp, rc, th, hlook, hcase⟩ := look_case HH1.out p.tsn
  have HLK := Lib.hid hlook
  clear hlook m1 m6
  refine MonoU.wp_region_U [some 30, some 31, some 32, some 33, some 34, some 35, some 36, some 29, some 37, some 38, some 6, none, some 7] [some (.pointer (some ⟨g, 0, none⟩)), some (.pointer (some ⟨g, 0, none⟩)), some (.pointer (some ⟨g, 0, none⟩)), some (.map (some b1)), some (.pointer (some ⟨W0.heap.size, 0, none⟩)), some (.int .u32 p.tsn), some (.tuple #[.agg (row r (.slice rp r.data.length rc)).toArray, .bool th]), some (.tuple #[.agg (row r (.slice rp r.data.length rc)).toArray, .bool th]), some (.agg (row r (.slice rp r.data.length rc)).toArray), some (.bool th), none, none, some (.bool th)] (Bx.JN w1 10 11 45 ((row zA (.slice none 0 0)).toArray) ((row r (.slice rp r.data.length rc)).toArray)) (by kernel_rfl) (by kernel_rfl) (by kernel_rfl) (fun _ => undef) ?_ ?_ ?_
  · exact Bx.JN.start _ _
  · simp only [MonoU.OpGoals, and_true]
    refine ⟨?_, ?_, ?_, ?_, ?_, ?_, ?_, ?_, ?_, ?_, ?_, ?_, ?_⟩
    · intro l u a x hJ hsz hjn hdep hsame hval hfresh
      have c1 := (HH1.out.below hJ.below).row.cell 0; simp [boxA] at c1; have c0 := (HT1.out.ext hJ.below).cell 0; simp [Pcs.row] at c0
      have z0 : a.eval (.tmp 0) = .pointer (some ⟨g, 0, none⟩) := hsame 0 (by decide)
      simp [Act.eval] at z0
      exact wp_val (.pointer (some ⟨g, 0, none⟩)) x (by simp [execOp, z0, go_sem, c1, c0]) ⟨_, rfl, (fun c e => by cases e; rfl), hJ.pure 0 _ (by decide) (by decide)⟩
    · intro l u a x hJ hsz hjn hdep hsame hval hfresh
      have c1 := (HH1.out.below hJ.below).row.cell 0; simp [boxA] at c1; have c0 := (HT1.out.ext hJ.below).cell 0; simp [Pcs.row] at c0
      have z30 : a.eval (.tmp 30) = .pointer (some ⟨g, 0, none⟩) := hval 0 30 (hdep ⟨0, .data⟩ (by simp) rfl) rfl
      simp [Act.eval] at z30
      exact wp_val (.pointer (some ⟨g, 0, none⟩)) x (by simp [execOp, z30, go_sem, c1, c0]) ⟨_, rfl, (fun c e => by cases e; rfl), hJ.pure 1 _ (by decide) (by decide)⟩
    · intro l u a x hJ hsz hjn hdep hsame hval hfresh
      have c1 := (HH1.out.below hJ.below).row.cell 0; simp [boxA] at c1; have c0 := (HT1.out.ext hJ.below).cell 0; simp [Pcs.row] at c0
      have z31 : a.eval (.tmp 31) = .pointer (some ⟨g, 0, none⟩) := hval 1 31 (hdep ⟨1, .data⟩ (by simp) rfl) rfl
      simp [Act.eval] at z31
      exact wp_val (.pointer (some ⟨g, 0, none⟩)) x (by simp [execOp, z31, go_sem, c1, c0]) ⟨_, rfl, (fun c e => by cases e; rfl), hJ.pure 2 _ (by decide) (by decide)⟩
    · intro l u a x hJ hsz hjn hdep hsame hval hfresh
      have c1 := (HH1.out.below hJ.below).row.cell 0; simp [boxA] at c1; have c0 := (HT1.out.ext hJ.below).cell 0; simp [Pcs.row] at c0
      have z32 : a.eval (.tmp 32) = .pointer (some ⟨g, 0, none⟩) := hval 2 32 (hdep ⟨2, .data⟩ (by simp) rfl) rfl
      simp [Act.eval] at z32
      exact wp_val (.map (some b1)) x (by simp [execOp, z32, go_sem, c1, c0]) ⟨_, rfl, (fun c e => by cases e; rfl), hJ.pure 3 _ (by decide) (by decide)⟩
    · intro l u a x hJ hsz hjn hdep hsame hval hfresh
      have c1 := (HH1.out.below hJ.below).row.cell 0; simp [boxA] at c1; have c0 := (HT1.out.ext hJ.below).cell 0; simp [Pcs.row] at c0
      have z3 : a.eval (.tmp 3) = .pointer (some ⟨W0.heap.size, 0, none⟩) := hsame 3 (by decide)
      simp [Act.eval] at z3
      exact wp_val (.pointer (some ⟨W0.heap.size, 0, none⟩)) x (by simp [execOp, z3, go_sem, c1, c0]) ⟨_, rfl, (fun c e => by cases e; rfl), hJ.pure 4 _ (by decide) (by decide)⟩
    · intro l u a x hJ hsz hjn hdep hsame hval hfresh
      have c1 := (HH1.out.below hJ.below).row.cell 0; simp [boxA] at c1; have c0 := (HT1.out.ext hJ.below).cell 0; simp [Pcs.row] at c0
      have z34 : a.eval (.tmp 34) = .pointer (some ⟨W0.heap.size, 0, none⟩) := hval 4 34 (hdep ⟨4, .data⟩ (by simp) rfl) rfl
      simp [Act.eval] at z34
      exact wp_val (.int .u32 p.tsn) x (by simp [execOp, z34, go_sem, c1, c0]) ⟨_, rfl, (fun c e => by cases e; rfl), hJ.pure 5 _ (by decide) (by decide)⟩
    · intro l u a x hJ hsz hjn hdep hsame hval hfresh
      have c1 := (HH1.out.below hJ.below).row.cell 0; simp [boxA] at c1; have c0 := (HT1.out.ext hJ.below).cell 0; simp [Pcs.row] at c0
      have z33 : a.eval (.tmp 33) = .map (some b1) := hval 3 33 (hdep ⟨3, .data⟩ (by simp) rfl) rfl
      have z35 : a.eval (.tmp 35) = .int .u32 p.tsn := hval 5 35 (hdep ⟨5, .data⟩ (by simp) rfl) rfl
      simp [Act.eval] at z33 z35
      have hlk := (HH1.out.below hJ.below).look1 p.tsn HU.out
      exact wp_val (.tuple #[.agg (row r (.slice rp r.data.length rc)).toArray, .bool th]) x (by simp [execOp, z33, z35, hlk, HLK.out, Result.andThen, go_sem]) ⟨_, rfl, (fun c e => by cases e; rfl), hJ.pure 6 _ (by decide) (by decide)⟩
    · intro l u a x hJ hsz hjn hdep hsame hval hfresh
      have c1 := (HH1.out.below hJ.below).row.cell 0; simp [boxA] at c1; have c0 := (HT1.out.ext hJ.below).cell 0; simp [Pcs.row] at c0
      have z36 : a.eval (.tmp 36) = .tuple #[.agg (row r (.slice rp r.data.length rc)).toArray, .bool th] := hval 6 36 (hdep ⟨6, .data⟩ (by simp) rfl) rfl
      simp [Act.eval] at z36
      exact wp_val (.tuple #[.agg (row r (.slice rp r.data.length rc)).toArray, .bool th]) x (by simp [execOp, z36, go_sem, c1, c0]) ⟨_, rfl, (fun c e => by cases e; rfl), hJ.pure 7 _ (by decide) (by decide)⟩
    · intro l u a x hJ hsz hjn hdep hsame hval hfresh
      have c1 := (HH1.out.below hJ.below).row.cell 0; simp [boxA] at c1; have c0 := (HT1.out.ext hJ.below).cell 0; simp [Pcs.row] at c0
      have z29 : a.eval (.tmp 29) = .tuple #[.agg (row r (.slice rp r.data.length rc)).toArray, .bool th] := hval 7 29 (hdep ⟨7, .data⟩ (by simp) rfl) rfl
      simp [Act.eval] at z29
      exact wp_val (.agg (row r (.slice rp r.data.length rc)).toArray) x (by simp [execOp, z29, go_sem, c1, c0]) ⟨_, rfl, (fun c e => by cases e; rfl), hJ.pure 8 _ (by decide) (by decide)⟩
    · intro l u a x hJ hsz hjn hdep hsame hval hfresh
      have c1 := (HH1.out.below hJ.below).row.cell 0; simp [boxA] at c1; have c0 := (HT1.out.ext hJ.below).cell 0; simp [Pcs.row] at c0
      have z29 : a.eval (.tmp 29) = .tuple #[.agg (row r (.slice rp r.data.length rc)).toArray, .bool th] := hval 7 29 (hdep ⟨7, .data⟩ (by simp) rfl) rfl
      simp [Act.eval] at z29
      exact wp_val (.bool th) x (by simp [execOp, z29, go_sem, c1, c0]) ⟨_, rfl, (fun c e => by cases e; rfl), hJ.pure 9 _ (by decide) (by decide)⟩
    · intro l u a x hJ hsz hjn hdep hsame hval hfresh
      have c1 := (HH1.out.below hJ.below).row.cell 0; simp [boxA] at c1; have c0 := (HT1.out.ext hJ.below).cell 0; simp [Pcs.row] at c0
      have hns : l.getD 11 false = false := by cases h : l.getD 11 false with | false => rfl | true => exact absurd (hJ.ord h) (by rw [MonoU.getD_false hjn]; decide)
      exact Bx.wp_allocN 45 rfl ((row zA (.slice none 0 0)).toArray) (by kernel_rfl) (fun y hat hb => ⟨_, rfl, (fun c e => by cases e), hJ.stepA (by decide) (by rw [hsz]; decide) hns hb hat⟩)
    · intro l u a x hJ hsz hjn hdep hsame hval hfresh
      have c1 := (HH1.out.below hJ.below).row.cell 0; simp [boxA] at c1; have c0 := (HT1.out.ext hJ.below).cell 0; simp [Pcs.row] at c0
      have z6 : a.eval (.tmp 6) = u 10 := hval 10 6 (hdep ⟨10, .data⟩ (by simp) rfl) rfl
      have z37 : a.eval (.tmp 37) = .agg (row r (.slice rp r.data.length rc)).toArray := hval 8 37 (hdep ⟨8, .data⟩ (by simp) rfl) rfl
      have hla : l.getD 10 false = true := hdep ⟨10, .data⟩ (by simp) rfl
      obtain ⟨q, e, hq, hat⟩ := hJ.cell hla
      rw [MonoU.getD_false hjn, if_neg (by decide)] at hat
      rw [e] at z6
      exact Bx.wp_storeN 45 (.tmp 6) (.tmp 37) rfl rfl q 45 _ ((row r (.slice rp r.data.length rc)).toArray) z6 (by rw [z37]) hat (by kernel_rfl) rfl (one45 _ _ _ _) (fun y hat2 hg => ⟨undef, rfl, (fun c e => by cases e), hJ.stepS (by decide) (by rw [hsz]; decide) hla e hq hat2 hg⟩)
    · intro l u a x hJ hsz hjn hdep hsame hval hfresh
      have c1 := (HH1.out.below hJ.below).row.cell 0; simp [boxA] at c1; have c0 := (HT1.out.ext hJ.below).cell 0; simp [Pcs.row] at c0
      have z38 : a.eval (.tmp 38) = .bool th := hval 9 38 (hdep ⟨9, .data⟩ (by simp) rfl) rfl
      simp [Act.eval] at z38
      exact wp_val (.bool th) x (by simp [execOp, z38, go_sem, c1, c0]) ⟨_, rfl, (fun c e => by cases e; rfl), hJ.pure 12 _ (by decide) (by decide)⟩
  intro u2 w2 hJ2
  obtain ⟨q6, e6, hq6, hat6⟩ := hJ2.cell rfl
  have HJB := Lib.hid hJ2.below
  have HH2 := Lib.hid (HH1.out.below hJ2.below)
  have HT2 := Lib.hid (HT1.out.ext hJ2.below)
  have HB2 := Lib.hid (HB1.out.trans (hJ2.below.mono HB1.out.size))
  have HZ2 := Lib.hid (Nat.le_trans HZ.out HB2.out.size)
  clear hat6 hJ2 hq6 m0
  simp [Act.put, MonoU.pick]
  rw [e6]
  clear e6
  rcases hcase with ⟨rfl, hnone⟩ | ⟨rfl, hsome⟩
  · have HNO := Lib.hid hnone
    obtain ⟨n0, hn0⟩ : ∃ n0, x.held.length = n0 := ⟨_, rfl⟩
    have HLN := Lib.hid (by have h1 := HH2.out.map1.len Try.underlying72 3; rw [hn0] at h1; exact h1)
    have HN0 := Lib.hid hn0
    have hnb : n0 ≤ 512 := by rw [← hn0]; exact HH2.out.ok.1.1
    clear hnone hn0
    have c0 := HH2.out.row.cell 0
    have k6 := HT2.out.cell 6
    simp [boxA, row] at c0 k6
    by_cases hfull : 512 ≤ n0
    · have hp : putF x p = (x, [], 10) := by unfold putF; rw [if_neg (by rw [HNB.out]; decide), HNO.out, if_neg (by decide), if_pos (by rw [HN0.out]; exact hfull)]
      have HP := Lib.hid hp
      have fz : (512 : Int) ≤ (n0 : Int) := by omega
      have fb : decide ((512 : Int) ≤ (n0 : Int)) = true := decide_eq_true fz
      clear hp
      go_wp2_with ((with_reducible refine wpl_lenR rfl (.tmp 43) 72 rfl (.map (some b1)) (.int .i64 n0) ?_ HLN.out ?_); rfl)
      go_ret2
      unfold PutIs
      rw [HP.out]
      exact ⟨_, rfl, OwnG.nil _ _, ⟨_, _, _, _, HH2.out⟩, ButX.ofBelow HB2.out⟩
    · have fz : ¬ (512 : Int) ≤ (n0 : Int) := by omega
      have fb : decide ((512 : Int) ≤ (n0 : Int)) = false := decide_eq_false fz
      go_upto_region 11 with (first
        | ((with_reducible refine wpl_lenR rfl (.tmp 43) 72 rfl (.map (some b1)) (.int .i64 n0) ?_ HLN.out ?_); rfl)
        | (go_at_call 22; go_must (refine (Chunk.clone _ p.data _ (HR.out.below HB2.out) (by rw [HL.out]; omega)).mono ?_; rintro e w3 ⟨d3, rfl, hd3, hb3⟩; obtain ⟨q4, c4, hv3, _⟩ := id hd3.reads; rw [HL.out] at hv3; subst hv3; have HD3 := Lib.hid hd3; have HH3 := Lib.hid (HH2.out.below hb3); have HT3 := Lib.hid (HT2.out.ext hb3); have HB3 := Lib.hid (HB2.out.trans (hb3.mono HB2.out.size)); clear hd3 hb3 c0 k6))
        | ((with_reducible refine wpl_storeC rfl 30 (.tmp 49) (.tmp 48) rfl rfl W0.heap.size 6 45 (row p (.slice pq L pc)).toArray (row p (.slice q4 L c4)).toArray (.slice q4 L c4) ?_ ?_ HT3.out ?_ (by kernel_rfl) ?_ ?_ ?_); rfl; rfl; exact (show (6 : Nat) < 7 by decide); rfl; rfl; go_must (intro w4 hat4 hg4; have HH4 := Lib.hid (HH3.out.grownT hg4 HT3.out (by decide) (by decide)); have HD4 := Lib.hid (HD3.out.kept hg4 (.inr (own_ne HD3.out HT3.out (by decide)))); have HB4 := Lib.hid (below_grown HB3.out hg4 HB3.out.size (Nat.le_refl _)); have HT4 := Lib.hid hat4; clear hat4 hg4)))
      have c0 := HH4.out.row.cell 0
      simp [boxA] at c0
      have m0 := HT4.out.cell 0
      have m1 := HT4.out.cell 1
      have m2 := HT4.out.cell 2
      have m3 := HT4.out.cell 3
      have m4 := HT4.out.cell 4
      have m5 := HT4.out.cell 5
      have m6 := HT4.out.cell 6
      simp [row] at m0 m1 m2 m3 m4 m5 m6
      go_still_tail 7, (by kernel_rfl)
      change wpList _ _ _ _ _ w4.drew
      have hbd : Below w4.heap.size w4 w4.drew := (Below.refl _ _).drew
      have hH5 := HH4.out.below hbd
      have hD5 := Row.below HD4.out hbd
      have hT5 := HT4.out.ext hbd
      have hB5 := HB4.out.trans (hbd.mono HB4.out.size)
      generalize w4.drew = w5 at hH5 hD5 hT5 hB5 ⊢
      obtain ⟨w6, hrun6, hH6, hg6⟩ := hH5.addH p (.slice q4 L c4) HIN.out (Row.mono hD5 HZ2.out) HNO.out (by rw [HN0.out]; omega)
      have HRUN6 := Lib.hid hrun6
      have HH6 := Lib.hid hH6
      have HT6 := Lib.hid (at_map hT5 hg6 hH5.map1.isMap)
      have HB6 := Lib.hid (butX_grown (X := BX g b1 b2) (ButX.ofBelow hB5) hg6 (fun q e => .inl (.inr (.inl (Option.some.inj e).symm))))
      clear hbd hH5 hD5 hT5 hB5 hrun6 hH6 hg6 c0 m0 m1 m2 m3 m4 m5 m6
      have m0 := HT6.out.cell 0
      have m1 := HT6.out.cell 1
      have m2 := HT6.out.cell 2
      have m3 := HT6.out.cell 3
      have m4 := HT6.out.cell 4
      have m5 := HT6.out.cell 5
      have m6 := HT6.out.cell 6
      simp [row] at m0 m1 m2 m3 m4 m5 m6
      obtain ⟨hh, hhd⟩ : ∃ hh, x.held ++ [p] = hh := ⟨_, rfl⟩
      have HHD := Lib.hid hhd
      have hgp : getH hh p.tsn = some p := by rw [← hhd, getH_app HNO.out, if_pos rfl]
      rw [hhd] at HH6
      have hlh : hh.length ≤ 512 := by rw [← hhd, List.length_append, List.length_singleton, HN0.out]; omega
      obtain ⟨F, N, hw⟩ : ∃ F N, wholeF hh p = (F, N) := ⟨_, _, rfl⟩
      have HW := Lib.hid hw
      have HLH := Lib.hid hlh
      have PW := Lib.hid (show Calls Try.prog 24 #[.pointer (some ⟨g, 0, none⟩), .agg #[.int .u32 p.tsn, .int .u16 p.stream, .int .u16 p.seq, .bool p.bg, .bool p.en, .bool p.un, .slice q4 L c4]] w6 (WholeIs w6 hh p) from whole (x := { x with held := hh }) HH6.out hlh p q4 L c4 hgp HU.out)
      have HGP := Lib.hid hgp
      clear hw hlh hgp hhd
      go_upto_region 13 with (first
        | ((with_reducible refine wpl_updateR rfl (.tmp 53) (.tmp 55) (.tmp 56) 72 rfl b1 (.int .u32 p.tsn) (.agg (row p (.slice q4 L c4)).toArray) w6 ?_ ?_ ?_ HRUN6.out ?_); rfl; rfl; rfl)
        | (go_at_call 24; go_must (refine PW.out.mono ?_; rintro e w7 ⟨he, hb7⟩; rw [HW.out] at he; subst he; have HH7 := Lib.hid (HH6.out.below hb7); have HT7 := Lib.hid (HT6.out.ext hb7); have HB7 := Lib.hid (HB6.out.trans ((ButX.ofBelow hb7 (X := fun _ => False)).mono (fun k e => e.elim))); clear hb7 PW)))
      have m1 := HT7.out.cell 1
      have m2 := HT7.out.cell 2
      have m5 := HT7.out.cell 5
      simp [row] at m1 m2 m5
      have hput : putF x p = match (F, N) with
          | (first, 0) => ({ x with held := hh }, [], 0)
          | (first, n + 1) =>
            let t := takeF (n + 1) hh first []
            if p.un = true then ({ x with held := t.1 }, [⟨p.stream, t.2⟩], 0)
            else
              let l := waitF x.wait p t.2
              let r := readyF (l.length + 1) l x.next p.stream.toNat []
              (⟨t.1, r.1, r.2.1⟩, r.2.2, 0) := by
        rw [← HW.out, ← HHD.out]
        unfold putF
        rw [if_neg (by rw [HNB.out]; decide), HNO.out, if_neg (by decide), if_neg (by rw [HN0.out]; exact hfull)]
        rfl
      have HPUT := Lib.hid hput
      clear hput HB1 HS1 HJB HB2 HT2 HH2 HB3 HH3 HT3 HD3 HT4 HB4 HD4 HH4 HT6 HB6 HH6 HLK HH1 HT1 HRUN6 m0 m3 m4 m6
      cases N with
      | zero =>
        go_wp2_with fail
        go_ret2
        unfold PutIs
        rw [HPUT.out]
        exact ⟨_, rfl, OwnG.nil _ _, ⟨_, _, _, _, HH7.out⟩, HB7.out⟩
      | succ k =>
        obtain ⟨n, hn⟩ : ∃ n, k + 1 = n := ⟨_, rfl⟩
        have hall := whole_all HU.out HW.out
        have hput : putF x p = (if p.un = true then ({ x with held := (takeF n hh F []).1 }, [⟨p.stream, (takeF n hh F []).2⟩], 0) else
            (⟨(takeF n hh F []).1, (readyF ((waitF x.wait p (takeF n hh F []).2).length + 1) (waitF x.wait p (takeF n hh F []).2) x.next p.stream.toNat []).1, (readyF ((waitF x.wait p (takeF n hh F []).2).length + 1) (waitF x.wait p (takeF n hh F []).2) x.next p.stream.toNat []).2.1⟩, (readyF ((waitF x.wait p (takeF n hh F []).2).length + 1) (waitF x.wait p (takeF n hh F []).2) x.next p.stream.toNat []).2.2, 0)) := by
          rw [HPUT.out, ← hn]
        have HPUT2 := Lib.hid hput
        rw [hn] at hall ⊢
        have hn0 : 0 < n := by omega
        have hn5 : n ≤ 512 := by have := HLH.out; omega
        have nz : ((n : Int) == 0) = false := by simp; omega
        have HUF := Lib.hid hall.1
        have HALL := Lib.hid hall.2.2
        clear hput HPUT hall hn HW
        go_upto_region 17 with (first
          | ((with_reducible refine wpl_allocAt rfl 32 rfl #[.int .u16 0, .slice none 0 0] (by kernel_rfl) ?_); go_must (intro w8 hat8 hb8 hs8; have HH8 := Lib.hid (HH7.out.below hb8); have HT8 := Lib.hid (HT7.out.ext hb8); have HB8 := Lib.hid (HB7.out.trans ((ButX.ofBelow hb8 (X := fun _ => False)).mono (fun k e => e.elim))); have HS8 := Lib.hid hs8; clear hb8 hs8 m1 m2 m5))
          | ((with_reducible refine wpl_storeR rfl 32 (.tmp 10) (.tmp 67) rfl rfl w7.heap.size 32 #[.int .u16 0, .slice none 0 0] #[.int .u16 p.stream, .slice none 0 0] ?_ ?_ hat8 (by kernel_rfl) ?_ ?_ ?_); rfl; rfl; rfl; (simp [Value.oneCell']); go_must (intro w9 hat9 hg9; have HH9 := Lib.hid (HH8.out.grownT hg9 hat8 (by decide) (by decide)); have HT9 := Lib.hid (HT8.out.grown hg9 (by have := HT7.out.lt; omega)); have HB9 := Lib.hid (butX_grown HB8.out hg9 (fun q e => .inr (by cases e; exact HB7.out.size))); have HM9 := Lib.hid hat9; have HS9 := Lib.hid hg9.size; clear hat8 hat9 hg9)))
        have HV1 := Lib.hid (show ∀ a ∈ hh, ∀ q, (updV vs p.tsn (.slice q4 L c4) a.tsn).ownBlock = some q → q < w9.heap.size from fun a ha q e => ((HH9.out.rows1 a ha).lt q e).2)
        have HV2 := Lib.hid (show ∀ y ∈ x.wait, ∀ q, (vw y.s y.q).ownBlock = some q → q < w9.heap.size from fun y hy q e => ((HH9.out.rows2 y hy).lt q e).2)
        have HROW9 := Lib.hid (show Row .u8 5 w9.heap.size w9 (.slice none 0 0) [] from World.ownsRow_nil _ _ _ _)
        clear HH8 HT8 HB8
        have HWB := Lib.hid HB7.out.size
        have HB9s := Lib.hid HB9.out.size
        have HZ9 := Lib.hid (Nat.le_trans HZ.out HB9.out.size)
        have HLT7 := Lib.hid HT7.out.lt
        clear HH7 HT7 HB7
        go_loopw [8, 69] (fun v8 v69 wr => ∃ (i : Nat) (t : Int) (h : List A) (acc : List Int) (mv : Value) (m1' : Lit → Option Value), v8 = .int .u32 t ∧ v69 = .int .i64 (i : Int) ∧
          Hid (Has Z wr g b1 b2 { x with held := h } (updV vs p.tsn (.slice q4 L c4)) vw m1' f2) ∧ Hid (At wr w7.heap.size 32 #[.int .u16 p.stream, mv]) ∧ Hid (Row .u8 5 w9.heap.size wr mv acc) ∧
          Hid (t = stp F (i : Int) ∧ i ≤ n ∧ acc.length ≤ 256 * i ∧ i ≤ acc.length ∧ takeF n hh F [] = takeF (n - i) h t acc ∧ (∀ k : Nat, k < n - i → (getH h (stp t (k : Int))).isSome = true) ∧ (∀ a ∈ h, a ∈ hh) ∧ bytesOk acc) ∧
          Hid (ButX (BX g b1 b2) W0 wr) ∧ Hid (At wr W0.heap.size 45 (row p (.slice q4 L c4)).toArray) ∧ Hid (w9.heap.size ≤ wr.heap.size)) (fun _ v69 _ => n - (intOf v69).toNat)
        case atStart =>
          exact ⟨0, F, hh, [], .slice none 0 0, _, rfl, rfl, HH9.out, HM9.out, HROW9.out, ⟨by rw [show ((0 : Nat) : Int) = 0 from rfl, stp_0 HUF.out], by omega, by simp, by simp, rfl, fun k hk => HALL.out k (by omega), fun a ha => ha, fun z hz => by cases hz⟩, HB9.out, HT9.out, Nat.le_refl _⟩
        case round =>
          clear HH9 HM9 HROW9 HB9 HT9
          obtain ⟨i, t, h, acc, mv, m1', rfl, rfl, HHr, HMr, HRr, HIr, HBr, HTr, HSr⟩ := hrel
          by_cases hlt : i < n
          · have hltz : (i : Int) < (n : Int) := by omega
            have hltb : decide ((i : Int) < (n : Int)) = true := decide_eq_true hltz
            obtain ⟨ht, _, hacc, hacc0, htk, hpr, hsub, hbk⟩ := id HIr.out
            have hu : isU32 t := by rw [ht]; exact u32_wrap _
            obtain ⟨pa, hpa⟩ := Option.isSome_iff_exists.1 (by have := hpr 0 (by omega); rw [show ((0 : Nat) : Int) = 0 from rfl, stp_0 hu] at this; exact this)
            obtain ⟨hpm, hpt⟩ := getH_mem hpa
            have hpk := hsub pa hpm
            obtain ⟨qa, ca, hqa⟩ := HHr.out.one (x := { x with held := h }) hpa
            have hrow := HHr.out.rows1 pa hpm
            rw [hpt, hqa] at hrow
            have hlk : (Instr.lookup 72 (.map (some b1)) (.int .u32 t) false).run Try.prog wr.drew = .ok (.agg (row pa (.slice qa pa.data.length ca)).toArray) wr.drew := by
              rw [(HHr.out.below (Below.refl _ _).drew).look1n t hu]
              unfold lookN
              rw [show getH ({ x with held := h } : S).held t = some pa from hpa]
              simp only []
              rw [hqa]
            obtain ⟨pm, cm, hmv, hm1, hm2⟩ : ∃ pm cm, mv = .slice pm acc.length cm ∧ acc.length ≤ cm ∧ cm ≤ maxLen := by obtain ⟨pm, cm, e, e1, e2, _⟩ := HRr.out.reads; exact ⟨pm, cm, e, e1, e2⟩
            subst hmv
            have c0 := HHr.out.row.cell 0
            have c1 := HMr.out.cell 1
            simp [boxA] at c0 c1
            obtain ⟨an, han⟩ : ∃ an, acc.length = an := ⟨_, rfl⟩
            obtain ⟨pn, hpn⟩ : ∃ pn, pa.data.length = pn := ⟨_, rfl⟩
            have HAN := Lib.hid han
            have HPN := Lib.hid hpn
            have HRW := Lib.hid hrow
            have HPA := Lib.hid hpa
            rw [han] at HMr HRr c1
            rw [hpn] at hlk HRW
            clear ht hacc hacc0 htk hpr hsub hbk hpm hpt hpk hqa hrow hm1 hm2 han hpn hpa
            go_upto_region 18 with fail
            have hfd := field45 pa qa pn ca wr.drew
            go_still_tail 9, (by kernel_rfl)
            change wpList _ _ _ _ _ wr.drew
            have hbd : Below wr.heap.size wr wr.drew := (Below.refl _ _).drew
            have hHd := HHr.out.below hbd
            have hMd := HMr.out.ext hbd
            have hRd := Row.below HRr.out hbd
            have hTd := HTr.out.ext hbd
            have hBd := HBr.out.trans ((ButX.ofBelow hbd (X := fun _ => False)).mono (fun k e => e.elim))
            have hWd := Row.below HRW.out hbd
            have hSd : w9.heap.size ≤ wr.drew.heap.size := Nat.le_trans HSr.out hbd.size
            generalize wr.drew = wd at hHd hMd hRd hTd hBd hWd hSd hlk hfd ⊢
            have hHI := HIr.out
            have HPOK := Lib.hid (HHr.out.ok.1.2.2 pa (getH_mem HPA.out).1)
            have hpa2 : pa.data.length ≤ 256 := HPOK.out.2.2.1
            obtain ⟨v', wa, hrun, hrow', hga⟩ := append30 hRd hWd.reads (by have := hHI.2.2.1; omega) hSd
            obtain ⟨pv', cv', hv', _⟩ := id hrow'.reads
            rw [List.length_append, HAN.out, HPN.out] at hv'
            subst hv'
            have HRUN := Lib.hid hrun
            have hHa := hHd.grownRow hga hRd (fun a ha q e => HV1.out a (hHI.2.2.2.2.2.2.1 a ha) q e) (fun y hy q e => HV2.out y hy q e)
            have HHa := Lib.hid hHa
            have HMa := Lib.hid (hMd.kept' hga (own_ne hRd hMd (by decide)))
            have HTa := Lib.hid (hTd.kept' hga (own_ne hRd hTd (by decide)))
            have HRa := Lib.hid hrow'
            have HBa := Lib.hid (butX_grown hBd hga (fun q e => .inr (by have := (hRd.lt q e).1; have := HSr.out; have := HB9s.out; omega)))
            have HSa := Lib.hid (Nat.le_trans hSd hga.size)
            clear hbd hHd hMd hRd hTd hBd hWd hSd hlk hfd hHI hpa2 hrun hrow' hga hHa HHr HMr HRr HTr HBr HRW c0 c1
            go_upto_region 19 with (first
              | ((with_reducible refine Pcs.wpl_appendV rfl 30 (.tmp 72) (.tmp 79) rfl (.slice pm an cm) (.slice qa pn ca) (.slice pv' (an + pn) cv') wa ?_ ?_ HRUN.out ?_); rfl; rfl)
              | ((with_reducible refine wpl_storeC rfl 30 (.tmp 81) (.tmp 80) rfl rfl w7.heap.size 1 32 #[.int .u16 p.stream, .slice pm an cm] #[.int .u16 p.stream, .slice pv' (an + pn) cv'] (.slice pv' (an + pn) cv') ?_ ?_ HMa.out ?_ (by kernel_rfl) ?_ ?_ ?_); rfl; rfl; exact (show (1 : Nat) < 2 by decide); rfl; rfl; go_must (intro wb hatb hgb; have HHb := Lib.hid (HHa.out.grownT hgb HMa.out (by decide) (by decide)); have HTb := Lib.hid (HTa.out.grown hgb (by have := HLT7.out; omega)); have HRb := Lib.hid (HRa.out.kept hgb (.inr (own_ne HRa.out HMa.out (by decide)))); have HMb := Lib.hid hatb; have HBb := Lib.hid (butX_grown HBa.out hgb (fun q e => .inr (by cases e; exact HWB.out))); have HSb := Lib.hid (Nat.le_trans HSa.out hgb.size); clear hatb hgb HHa HTa HRa HMa HBa HSa)))
            have c0 := HHb.out.row.cell 0
            simp [boxA] at c0
            have hut : isU32 t := by rw [HIr.out.1]; exact u32_wrap _
            obtain ⟨wc, hrunc, hHc, hgc⟩ := HHb.out.dropH t hut HPA.out 0
            have HRUNC := Lib.hid hrunc
            have HHc := Lib.hid hHc
            have HMc := Lib.hid (at_map HMb.out hgc HHb.out.map1.isMap)
            have HTc := Lib.hid (at_map HTb.out hgc HHb.out.map1.isMap)
            have HRc := Lib.hid (row_map HRb.out hgc HHb.out.map1.isMap)
            have HBc := Lib.hid (butX_grown HBb.out hgc (fun q e => .inl (.inr (.inl (Option.some.inj e).symm))))
            have HSc := Lib.hid (Nat.le_trans HSb.out hgc.size)
            clear hrunc hHc hgc HHb HMb HTb HRb HBb HSb hut
            go_wp2_with ((with_reducible refine wpl_deleteR rfl (.tmp 85) (.tmp 86) 72 43 rfl b1 (.int .u32 t) wc ?_ ?_ HRUNC.out ?_); rfl; rfl)
            go_roundw
            case rel =>
              obtain ⟨e1, e2, e3, e4, e5, e6, e7, e8⟩ := HIr.out
              obtain ⟨o1, o2, o3, o4⟩ := HPOK.out
              have ent : nxt t = stp F ((i + 1 : Nat) : Int) := by rw [e1, nxt_stp]; congr 1
              refine ⟨i + 1, nxt t, rm h t, acc ++ pa.data, .slice pv' (an + pn) cv', _, by rw [show nxt t = _ from wrap32 _], by go_num, HHc.out, HMc.out, HRc.out, ⟨ent, by omega, by rw [List.length_append]; omega, by rw [List.length_append]; omega, ?_, ?_, ?_, ?_⟩, HBc.out, HTc.out, HSc.out⟩
              · rw [e5, show n - i = (n - (i + 1)) + 1 by omega, take_more HPA.out]
              · intro k hk
                have h1 := e6 (k + 1) (by omega)
                have h2 : stp (nxt t) (k : Int) = stp t ((k + 1 : Nat) : Int) := by unfold nxt stp; rw [wrap32, wrap32, wrap32]; omega
                rw [h2, getH_rm_other]
                · exact h1
                · intro e
                  have h3 : stp t ((k + 1 : Nat) : Int) = stp t 0 := by rw [e, stp_0 (by rw [e1]; exact u32_wrap _)]
                  have := stp_inj h3 (by omega) (by omega)
                  omega
              · intro a ha; exact e7 a (List.mem_filter.1 ha).1
              · intro z hz
                rcases List.mem_append.1 hz with hz | hz
                · exact e8 z hz
                · exact o1.2.2.2 z hz
            case measure => simp [intOf]; omega
          · have hltz : ¬ (i : Int) < (n : Int) := by omega
            have hltb : decide ((i : Int) < (n : Int)) = false := decide_eq_false hltz
            have hin : i = n := by have := HIr.out.2.1; omega
            obtain ⟨e1, e2, e3, e4, e5, e6, e7, e8⟩ := HIr.out
            rw [hin, Nat.sub_self] at e5
            have HTK := Lib.hid (show takeF n hh F [] = (h, acc) from e5)
            have HBK := Lib.hid e8
            have hal : acc.length ≤ 140000 := by omega
            have ha0 : 0 < acc.length := by omega
            have HAL := Lib.hid (And.intro hal ha0)
            have m1 := HTr.out.cell 1
            have m2 := HTr.out.cell 2
            have m5 := HTr.out.cell 5
            simp [row] at m1 m2 m5
            obtain ⟨pm, cm, hmv, hm1, hm2⟩ : ∃ pm cm, mv = .slice pm acc.length cm ∧ acc.length ≤ cm ∧ cm ≤ maxLen := by obtain ⟨pm, cm, e, e1, e2, _⟩ := HRr.out.reads; exact ⟨pm, cm, e, e1, e2⟩
            subst hmv
            obtain ⟨an, han⟩ : ∃ an, acc.length = an := ⟨_, rfl⟩
            rw [han] at HMr HRr
            have HAN := Lib.hid han
            have c0 := HMr.out.cell 0
            have c1 := HMr.out.cell 1
            simp at c0 c1
            clear e1 e2 e3 e4 e5 e6 e7 e8 hal ha0 hin hm1 hm2 han HIr
            obtain ⟨un, hun⟩ : ∃ un, p.un = un := ⟨_, rfl⟩
            have HUN := Lib.hid hun
            rw [hun] at m5
            clear hun
            cases un with
            | true =>
              go_wp2_with fail
              go_ret2
              unfold PutIs
              rw [HPUT2.out, if_pos HUN.out, HTK.out]
              have hrow : Row .u8 5 0 wr (.slice pm an cm) acc := Row.mono HRr.out (Nat.zero_le _)
              refine ⟨_, rfl, OwnG.mono (OwnG.one wr ⟨p.stream, acc⟩ (.slice pm an cm) hrow) HBr.out.size, ⟨_, _, _, _, HHr.out.below ((Below.refl _ _).alloc (Nat.le_refl _) _)⟩, ButX.trans HBr.out ((ButX.ofBelow ((Below.refl _ _).alloc (Nat.le_refl _) _) (X := fun _ => False)).mono (fun k e => e.elim))⟩
            | false =>
              have HUS := Lib.hid (HIN.out.1.2.1)
              have HUQ := Lib.hid (HIN.out.1.2.2.1)
              go_upto_region 25 with (first
                | ((with_reducible refine wpl_allocAt rfl 80 rfl #[.int .u16 0, .int .u16 0] (by kernel_rfl) ?_); go_must (intro wk hatk hbk hsk; have HBK1 := Lib.hid hbk; have HSK := Lib.hid hsk; have c0k := (HMr.out.ext hbk).cell 0; clear hbk hsk c0k))
                | ((with_reducible refine wpl_storeR rfl 80 (.tmp 11) (.tmp 98) rfl rfl wr.heap.size 80 #[.int .u16 0, .int .u16 0] #[.int .u16 p.stream, .int .u16 p.seq] ?_ ?_ hatk (by kernel_rfl) ?_ ?_ ?_); rfl; rfl; rfl; (simp [Value.oneCell']); go_must (intro wl hatl hgl; have HGL := Lib.hid (HBK1.out.grown hgl HBK1.out.size (fun q e => by cases e; exact Nat.le_refl _)); have HKl := Lib.hid hatl; clear hatl hgl hatk m1 m2 m5 c0 c1)))
              have HHl := Lib.hid (HHr.out.below HGL.out)
              have HMl := Lib.hid (HMr.out.ext HGL.out)
              have HTl := Lib.hid (HTr.out.ext HGL.out)
              have HRl := Lib.hid (Row.below HRr.out HGL.out)
              have HBl := Lib.hid (HBr.out.trans ((ButX.ofBelow HGL.out (X := fun _ => False)).mono (fun k e => e.elim)))
              clear HHr HMr HTr HRr HBr HGL HBK1 HSK
              obtain ⟨hh', hhh⟩ : ∃ hh', h = hh' := ⟨h, rfl⟩
              cases hgw : getW x.wait p.stream p.seq with
              | none =>
                have HGW := Lib.hid hgw
                have hlk := (HHl.out.below (Below.refl _ _).drew).look2n p.stream p.seq HUS.out HUQ.out
                simp only [hgw] at hlk
                have heq := fun w => Lib.run_eql_slice_nil (P := Try.prog) w 30 5 none 0 0 0 0 Try.underlying30
                have p1 := HHl.out.row.cell 1
                have k0 := HKl.out.cell 0
                have k1 := HKl.out.cell 1
                simp [boxA] at p1 k0 k1
                clear hgw
                have hfd := field32 0 none 0 0 wl.drew
                go_still_tail 7, (by kernel_rfl)
                change wpList _ _ _ _ _ wl.drew
                have hbd : Below wl.heap.size wl wl.drew := (Below.refl _ _).drew
                have HHm := Lib.hid (HHl.out.below hbd)
                have HMm := Lib.hid (HMl.out.ext hbd)
                have HTm := Lib.hid (HTl.out.ext hbd)
                have HRm := Lib.hid (Row.below HRl.out hbd)
                have HKm := Lib.hid (HKl.out.ext hbd)
                have HBm := Lib.hid (HBl.out.trans ((ButX.ofBelow hbd (X := fun _ => False)).mono (fun k e => e.elim)))
                generalize wl.drew = wm at HHm HMm HTm HRm HKm HBm hlk hfd ⊢
                clear hbd hlk hfd p1 k0 k1 HHl HMl HTl HRl HKl HBl
                go_upto_region 26 with fail
                have p1 := HHm.out.row.cell 1
                have k0 := HKm.out.cell 0
                have k1 := HKm.out.cell 1
                have c0 := HMm.out.cell 0
                have c1 := HMm.out.cell 1
                simp [boxA] at p1 k0 k1 c0 c1
                go_still_tail 6, (by kernel_rfl)
                change wpList _ _ _ _ _ wm.drew
                have hbd : Below wm.heap.size wm wm.drew := (Below.refl _ _).drew
                have hHn := HHm.out.below hbd
                have hTn := HTm.out.ext hbd
                have hRn := Row.below HRm.out hbd
                have hBn := HBm.out.trans ((ButX.ofBelow hbd (X := fun _ => False)).mono (fun k e => e.elim))
                generalize wm.drew = wn at hHn hTn hRn hBn ⊢
                obtain ⟨wo, hruno, hHo, hgo⟩ := hHn.addW ⟨p.stream, p.seq, acc⟩ (.slice pm an cm) HUS.out HUQ.out HBK.out HAL.out.2 HAL.out.1 (Row.mono hRn HZ9.out) HGW.out (by have := HWL.out; show x.wait.length ≤ 999999; omega)
                have HRUNO := Lib.hid hruno
                have HHo := Lib.hid hHo
                have HTo := Lib.hid (at_map hTn hgo hHn.map2.isMap)
                have HBo := Lib.hid (butX_grown hBn hgo (fun q e => .inl (.inr (.inr (Option.some.inj e).symm))))
                clear hbd hHn hTn hRn hBn hruno hHo hgo p1 k0 k1 c0 c1
                have m1 := HTo.out.cell 1
                simp [row] at m1
                have hs' : (p.stream.toNat : Int) = p.stream := by have := HUS.out; unfold isU16 at this; omega
                have hs8' : p.stream.toNat < 8 := by omega
                have hpr := ready HHo.out p.stream.toNat hs8' (by have := HWL.out; show (x.wait ++ [_]).length ≤ 999999; rw [List.length_append, List.length_singleton]; omega)
                rw [hs'] at hpr
                have HPR := Lib.hid hpr
                clear hpr hs' hs8'
                go_wp2_with (first
                  | ((with_reducible refine wpl_updateR rfl (.tmp 110) (.tmp 111) (.tmp 112) 73 rfl b2 (.agg #[.int .u16 p.stream, .int .u16 p.seq]) (.agg #[.int .u16 p.stream, .slice pm an cm]) wo ?_ ?_ ?_ HRUNO.out ?_); rfl; rfl; rfl)
                  | (go_at_call 25; go_must (refine HPR.out.mono ?_; rintro e wq ⟨vq, fq, rfl, hvq, hHq, hBq⟩; have HVQ := Lib.hid hvq; have HHQ := Lib.hid hHq; have HBQ := Lib.hid hBq; clear hvq hHq hBq)))
                go_ret2
                unfold PutIs
                have hwf : waitF x.wait p acc = x.wait ++ [⟨p.stream, p.seq, acc⟩] := by unfold waitF; rw [show getW x.wait p.stream p.seq = none from HGW.out]; rfl
                rw [HPUT2.out, if_neg (by rw [HUN.out]; decide), HTK.out]
                simp only []
                rw [hwf]
                exact ⟨_, rfl, OwnG.mono HVQ.out HBo.out.size, ⟨_, _, _, _, HHQ.out⟩, ButX.trans HBo.out (HBQ.out.mono more_self)⟩
              | some y =>
                have HGW := Lib.hid hgw
                have hlk := (HHl.out.below (Below.refl _ _).drew).look2n p.stream p.seq HUS.out HUQ.out
                simp only [hgw] at hlk
                obtain ⟨yp, yc, hyv, hyr⟩ := HHl.out.twoW (x := { x with held := h }) hgw
                obtain ⟨yad, hyad⟩ : ∃ ad, yp = some ad := by
                  cases yp with
                  | some ad => exact ⟨ad, rfl⟩
                  | none =>
                    exfalso
                    obtain ⟨hy1, _⟩ := getW_mem hgw
                    have h0 := (HHl.out.ok.2.1.2 y hy1).2.2.2.1
                    obtain ⟨_, _, e, _, _, _, h4⟩ := hyr.reads
                    cases e
                    obtain ⟨_, _, e, _⟩ := h4 h0
                    cases e
                subst hyad
                rw [hyv] at hlk
                obtain ⟨yn, hyn⟩ : ∃ yn, y.data.length = yn := ⟨_, rfl⟩
                rw [hyn] at hlk
                have heq := fun w => Lib.run_eql_slice_nil (P := Try.prog) w 30 5 (some yad) yn yc 0 0 Try.underlying30
                have p1 := HHl.out.row.cell 1
                have k0 := HKl.out.cell 0
                have k1 := HKl.out.cell 1
                simp [boxA] at p1 k0 k1
                have hfd := field32 p.stream (some yad) yn yc wl.drew
                clear hgw hyv hyr hyn
                go_still_tail 7, (by kernel_rfl)
                change wpList _ _ _ _ _ wl.drew
                have hbd : Below wl.heap.size wl wl.drew := (Below.refl _ _).drew
                have HHm := Lib.hid (HHl.out.below hbd)
                have HTm := Lib.hid (HTl.out.ext hbd)
                have HBm := Lib.hid (HBl.out.trans ((ButX.ofBelow hbd (X := fun _ => False)).mono (fun k e => e.elim)))
                generalize wl.drew = wm at HHm HTm HBm hlk hfd ⊢
                clear hbd hlk hfd p1 k0 k1 HHl HMl HTl HRl HKl HBl
                have m1 := HTm.out.cell 1
                simp [row] at m1
                have hs' : (p.stream.toNat : Int) = p.stream := by have := HUS.out; unfold isU16 at this; omega
                have hs8' : p.stream.toNat < 8 := by omega
                have hpr := ready HHm.out p.stream.toNat hs8' (by have := HWL.out; show x.wait.length ≤ 999999; omega)
                rw [hs'] at hpr
                have HPR := Lib.hid hpr
                clear hpr hs' hs8'
                go_wp2_with (go_at_call 25; go_must (refine HPR.out.mono ?_; rintro e wq ⟨vq, fq, rfl, hvq, hHq, hBq⟩; have HVQ := Lib.hid hvq; have HHQ := Lib.hid hHq; have HBQ := Lib.hid hBq; clear hvq hHq hBq))
                go_ret2
                unfold PutIs
                have hwf : waitF x.wait p acc = x.wait := by unfold waitF; rw [show getW x.wait p.stream p.seq = some y from HGW.out]; rfl
                rw [HPUT2.out, if_neg (by rw [HUN.out]; decide), HTK.out]
                simp only []
                rw [hwf]
                exact ⟨_, rfl, OwnG.mono HVQ.out HBm.out.size, ⟨_, _, _, _, HHQ.out⟩, ButX.trans HBm.out (HBQ.out.mono more_self)⟩
  · have hp : putF x p = (x, [], 9) := by unfold putF; rw [if_neg (by rw [HNB.out]; decide), hsome]; rfl
    have HP := Lib.hid hp
    clear hsome hp
    go_wp2_with fail
    go_ret2
    unfold PutIs
    rw [HP.out]
    exact ⟨_, rfl, OwnG.nil _ _, ⟨_, _, _, _, HH2.out⟩, ButX.ofBelow HB2.out⟩
end Go.Proofs.Yteiiifonejkjbaa.Bx
