/-
  Contracts: alike (31), whole (24).
-/
import Derived.Test.YteiiifonejkjbaaBox1
import Derived.Test.YteiiifonejkjbaaCut3
namespace Go.Proofs.Yteiiifonejkjbaa.Bx
open Go.RowKit Mem Cells Ops Pcs Go.Maps Go.Proofs.Yteiiifonejkjbaa.Open
set_option linter.unusedVariables false
set_option linter.unusedSimpArgs false
attribute [local go_sem] Oper.semAt_some

def z45 : Value := .agg #[.int .u32 0, .int .u16 0, .int .u16 0, .bool false, .bool false, .bool false, .slice none 0 0]
section
variable {w w' : World} {Z g b1 b2 : Nat} {x : S} {vs : Int → Value} {vw : Int → Int → Value} {m1 m2 : Lit → Option Value}
theorem Has.below (h : Has Z w g b1 b2 x vs vw m1 m2) (hb : Below w.heap.size w w') : Has Z w' g b1 b2 x vs vw m1 m2 :=
  ⟨h.row.ext hb, h.map1.below hb, h.map2.below hb, h.ne, h.says1, h.says2, fun a ha => Row.below (h.rows1 a ha) hb, fun y hy => Row.below (h.rows2 y hy) hb, h.ok⟩
/-- What a look-up among the pieces answers. -/
def lookR (h : List A) (vs : Int → Value) (t : Int) : Value := match getH h t with
  | none => .tuple #[z45, .bool false]
  | some a => .tuple #[.agg (row a (vs t)).toArray, .bool true]
def lookN (h : List A) (vs : Int → Value) (t : Int) : Value := match getH h t with
  | none => z45
  | some a => .agg (row a (vs t)).toArray
theorem Has.look1 (h : Has Z w g b1 b2 x vs vw m1 m2) (t : Int) (ht : isU32 t) : (Instr.lookup 72 (.map (some b1)) (.int .u32 t) true).run Try.prog w = .ok (lookR x.held vs t) w := by
  rw [h.map1.look_ok keyed43 Try.underlying72 (zero45 w) (keyOf43 t ht), h.says1 t ht]
  unfold lookR
  cases getH x.held t <;> rfl
theorem Has.look1n (h : Has Z w g b1 b2 x vs vw m1 m2) (t : Int) (ht : isU32 t) : (Instr.lookup 72 (.map (some b1)) (.int .u32 t) false).run Try.prog w = .ok (lookN x.held vs t) w := by
  rw [h.map1.look keyed43 Try.underlying72 (zero45 w) (keyOf43 t ht), h.says1 t ht]
  unfold lookN
  cases getH x.held t <;> rfl
theorem lookR_none {h : List A} {t : Int} (e : getH h t = none) : lookR h vs t = .tuple #[z45, .bool false] := by unfold lookR; rw [e]
theorem lookR_some {h : List A} {t : Int} {a : A} (e : getH h t = some a) : lookR h vs t = .tuple #[.agg (row a (vs t)).toArray, .bool true] := by unfold lookR; rw [e]
theorem Has.one (h : Has Z w g b1 b2 x vs vw m1 m2) {t : Int} {a : A} (e : getH x.held t = some a) : ∃ q c, vs t = .slice q a.data.length c := by
  obtain ⟨h1, h2⟩ := getH_mem e
  obtain ⟨q, c, h3, _⟩ := (h.rows1 a h1).reads
  rw [h2] at h3
  exact ⟨q, c, h3⟩
end
section
variable {P : Program} {w : World} {ops : Array Oper} {rest : List Oper} {o : Oper} {a : Act} {Q : Exit → Act → World → Prop}
theorem wpl_lookOk (hgd : o.guard = none) (t : TypeId) (m x : Operand) (c : Bool) (ho : o.op = .lookup t m x c) (b : Nat) (key r : Value) (hm : a.eval m = .map (some b)) (hx : a.eval x = key)
    (hrun : (Instr.lookup t (.map (some b)) key c).run P w = .ok r w) (K : wpList P ops Q rest (a.put o.dst r) w) : wpList P ops Q (o :: rest) a w := by
  refine wpList_plain hgd fun K' hK => ?_
  unfold Oper.wp
  simp [execOp, ho, hm, hx, hrun, Result.andThen]
  exact hK _ _ K
end

set_option maxRecDepth 100000 in
set_option maxHeartbeats 800000 in
theorem alike31 (a b : A) (d e : Value) (w : World) : Calls Try.prog 31 #[.agg (row a d).toArray, .agg (row b e).toArray] w fun r w' => r = .returned (.bool (alikeB a b)) ∧ Below w.heap.size w w' := by
  obtain ⟨r1, h1⟩ : ∃ r, (a.stream == b.stream) = r := ⟨_, rfl⟩
  obtain ⟨r2, h2⟩ : ∃ r, (a.seq == b.seq) = r := ⟨_, rfl⟩
  obtain ⟨r3, h3⟩ : ∃ r, (a.un == b.un) = r := ⟨_, rfl⟩
  have hr : alikeB a b = (r1 && r2 && r3) := by rw [← h1, ← h2, ← h3]; rfl
  rw [hr]
  clear hr
  cases r1 <;> cases r2
  all_goals
    go_enter Try.func31, Try.ntmps31
    go_wp2_with (first
      | ((with_reducible refine wpl_boxAt rfl 45 (.tmp 0) rfl (row a d).toArray ?_ ?_); rfl; go_must (intro w1 hat1 hb1 hs1; have HB1 := Lib.hid hb1; clear hb1 hs1))
      | ((with_reducible refine wpl_boxAt rfl 45 (.tmp 1) rfl (row b e).toArray ?_ ?_); rfl; go_must (intro w2 hat2 hb2 hs2; have HB2 := Lib.hid (HB1.out.trans (hb2.mono HB1.out.size)); have hat1' := hat1.ext hb2; have a1 := hat1'.cell 1; have a2 := hat1'.cell 2; have a5 := hat1'.cell 5; have b1 := hat2.cell 1; have b2 := hat2.cell 2; have b5 := hat2.cell 5; simp [row] at a1 a2 a5 b1 b2 b5; clear hat1 hb2 hs2)))
    go_ret
    exact ⟨by simp, HB2.out⟩
theorem alikeX (t s q : Int) (b e u : Bool) (d : Value) (t' s' q' : Int) (b' e' u' : Bool) (d' : Value) (w : World) :
    Calls Try.prog 31 #[.agg #[.int .u32 t, .int .u16 s, .int .u16 q, .bool b, .bool e, .bool u, d], .agg #[.int .u32 t', .int .u16 s', .int .u16 q', .bool b', .bool e', .bool u', d']] w fun r w' => r = .returned (.bool (s == s' && q == q' && u == u')) ∧ Below w.heap.size w w' :=
  alike31 ⟨t, s, q, b, e, u, []⟩ ⟨t', s', q', b', e', u', []⟩ d d' w
def zA : A := ⟨0, 0, 0, false, false, false, []⟩
theorem look_case {w : World} {Z g b1 b2 : Nat} {x : S} {vs : Int → Value} {vw : Int → Int → Value} {m1 m2 : Lit → Option Value} (h : Has Z w g b1 b2 x vs vw m1 m2) (t : Int) :
    ∃ r q c th, lookR x.held vs t = .tuple #[.agg (row r (.slice q r.data.length c)).toArray, .bool th] ∧ ((th = false ∧ getH x.held t = none) ∨ (th = true ∧ getH x.held t = some r)) := by
  cases e : getH x.held t with
  | none => exact ⟨zA, none, 0, false, lookR_none e, .inl ⟨rfl, rfl⟩⟩
  | some a =>
    obtain ⟨q, c, hq⟩ := h.one e
    exact ⟨a, q, c, true, by rw [lookR_some e, hq], .inr ⟨rfl, rfl⟩⟩

/-- So far back. -/
def BackAt (h : List A) (p : A) (j : Nat) (q : A) (F : Int) : Prop := F = stp p.tsn (-(j : Int)) ∧ j ≤ 511 ∧ (∀ i : Nat, i < j + 1 → (getH h (stp p.tsn (-1 * (i : Int)))).isSome = true) ∧ backF 600 h p p.tsn p = backF (600 - j) h p F q
theorem BackAt.start {h : List A} {p : A} (hp : getH h p.tsn = some p) (hu : isU32 p.tsn) : BackAt h p 0 p p.tsn :=
  ⟨by rw [show (-((0 : Nat) : Int)) = 0 from rfl, stp_0 hu], by omega, fun i hi => by
    have : i = 0 := by omega
    subst this
    rw [show (-1 * ((0 : Nat) : Int)) = 0 from rfl, stp_0 hu, hp]; rfl, rfl⟩
theorem BackAt.bg {h : List A} {p q : A} {j : Nat} {F : Int} (hb : BackAt h p j q F) (hq : q.bg = true) : backF 600 h p p.tsn p = some F := by
  obtain ⟨_, h2, _, h4⟩ := hb
  rw [h4, show 600 - j = (599 - j) + 1 by omega]
  unfold backF
  rw [if_pos hq]
theorem BackAt.gone {h : List A} {p q : A} {j : Nat} {F : Int} (hb : BackAt h p j q F) (hq : q.bg = false) (hn : getH h (prv F) = none) : backF 600 h p p.tsn p = none := by
  obtain ⟨_, h2, _, h4⟩ := hb
  rw [h4, show 600 - j = (599 - j) + 1 by omega]
  unfold backF
  rw [if_neg (by rw [hq]; decide), hn]
theorem BackAt.stop {h : List A} {p q r : A} {j : Nat} {F : Int} (hb : BackAt h p j q F) (hq : q.bg = false) (hn : getH h (prv F) = some r) (hs : alikeB r p = false ∨ r.en = true) : backF 600 h p p.tsn p = none := by
  obtain ⟨_, h2, _, h4⟩ := hb
  rw [h4, show 600 - j = (599 - j) + 1 by omega]
  unfold backF
  rw [if_neg (by rw [hq]; decide), hn]
  simp only
  rw [if_neg (by rintro ⟨h1, h2⟩; rcases hs with h | h <;> simp_all)]
theorem BackAt.next {h : List A} {p q r : A} {j : Nat} {F : Int} (hb : BackAt h p j q F) (hq : q.bg = false) (hn : getH h (prv F) = some r) (h1 : alikeB r p = true) (h3 : r.en = false) (hlen : h.length ≤ 512) : BackAt h p (j + 1) r (prv F) := by
  obtain ⟨e1, h2, e3, h4⟩ := hb
  have ep : prv F = stp p.tsn (-((j + 1 : Nat) : Int)) := by rw [e1, prv_stp]; congr 1; omega
  have hall : ∀ i : Nat, i < j + 1 + 1 → (getH h (stp p.tsn (-1 * (i : Int)))).isSome = true := by
    intro i hi
    by_cases e : i = j + 1
    · subst e
      rw [show (-1 * ((j + 1 : Nat) : Int)) = -((j + 1 : Nat) : Int) by omega, ← ep, hn]; rfl
    · exact e3 i (by omega)
  have := steps_le (-1) (.inr rfl) (by omega) hall
  refine ⟨ep, by omega, hall, ?_⟩
  rw [h4, show 600 - j = (599 - j) + 1 by omega]
  conv => lhs; unfold backF
  rw [if_neg (by rw [hq]; decide), hn]
  simp only
  rw [if_pos ⟨h1, h3⟩, show 600 - (j + 1) = 599 - j by omega]
/-- So far on. -/
def FwdAt (h : List A) (p : A) (F : Int) (i : Nat) (t : Int) : Prop := t = stp F (i : Int) ∧ i ≤ 512 ∧ (∀ k : Nat, k < i → (getH h (stp F (1 * (k : Int)))).isSome = true) ∧ fwdF 600 h p F F 0 = fwdF (600 - i) h p F t i
theorem FwdAt.start {h : List A} {p : A} {F : Int} (hu : isU32 F) : FwdAt h p F 0 F := ⟨by rw [show ((0 : Nat) : Int) = 0 from rfl, stp_0 hu], by omega, fun k hk => absurd hk (Nat.not_lt_zero k), rfl⟩
theorem FwdAt.gone {h : List A} {p : A} {F t : Int} {i : Nat} (hf : FwdAt h p F i t) (hn : getH h t = none) : fwdF 600 h p F F 0 = none := by
  obtain ⟨_, h2, _, h4⟩ := hf
  rw [h4, show 600 - i = (599 - i) + 1 by omega]
  unfold fwdF
  rw [hn]
theorem FwdAt.stop {h : List A} {p q : A} {F t : Int} {i : Nat} (hf : FwdAt h p F i t) (hn : getH h t = some q) (hs : alikeB q p = false ∨ q.bg ≠ decide (t = F)) : fwdF 600 h p F F 0 = none := by
  obtain ⟨_, h2, _, h4⟩ := hf
  rw [h4, show 600 - i = (599 - i) + 1 by omega]
  unfold fwdF
  rw [hn]
  simp only
  rw [if_neg (by rintro ⟨h1, h2⟩; rcases hs with h | h <;> simp_all)]
theorem FwdAt.done {h : List A} {p q : A} {F t : Int} {i : Nat} (hf : FwdAt h p F i t) (hn : getH h t = some q) (h1 : alikeB q p = true) (h3 : q.bg = decide (t = F)) (he : q.en = true) : fwdF 600 h p F F 0 = some (i + 1) := by
  obtain ⟨_, h2, _, h4⟩ := hf
  rw [h4, show 600 - i = (599 - i) + 1 by omega]
  unfold fwdF
  rw [hn]
  simp only
  rw [if_pos ⟨h1, h3⟩, if_pos he]
theorem FwdAt.next {h : List A} {p q : A} {F t : Int} {i : Nat} (hf : FwdAt h p F i t) (hn : getH h t = some q) (h1 : alikeB q p = true) (h3 : q.bg = decide (t = F)) (he : q.en = false) (hlen : h.length ≤ 512) : FwdAt h p F (i + 1) (nxt t) := by
  obtain ⟨e1, h2, e3, h4⟩ := hf
  have ep : nxt t = stp F ((i + 1 : Nat) : Int) := by rw [e1, nxt_stp]; congr 1
  have hall : ∀ k : Nat, k < i + 1 → (getH h (stp F (1 * (k : Int)))).isSome = true := by
    intro k hk
    by_cases e : k = i
    · subst e
      rw [show (1 * (k : Int)) = (k : Int) by omega, ← e1, hn]; rfl
    · exact e3 k (by omega)
  have := steps_le 1 (.inl rfl) (by omega) hall
  refine ⟨ep, by omega, hall, ?_⟩
  rw [h4, show 600 - i = (599 - i) + 1 by omega]
  conv => lhs; unfold fwdF
  rw [hn]
  simp only
  rw [if_pos ⟨h1, h3⟩, if_neg (by rw [he]; decide), show 600 - (i + 1) = 599 - i by omega]
theorem bne_two {a b : Bool} (h : (a != b) = true) : (a = true ∧ b = false) ∨ (a = false ∧ b = true) := by cases a <;> cases b <;> simp_all
theorem beq_two {a b : Bool} (h : (a != b) = false) : (a = true ∧ b = true) ∨ (a = false ∧ b = false) := by cases a <;> cases b <;> simp_all
theorem whole_none {h : List A} {p : A} (hb : backF 600 h p p.tsn p = none) : wholeF h p = (0, 0) := by unfold wholeF; rw [hb]
theorem whole_some {h : List A} {p : A} {F : Int} (hb : backF 600 h p p.tsn p = some F) : wholeF h p = match fwdF 600 h p F F 0 with | none => (0, 0) | some n => (F, n) := by unfold wholeF; rw [hb]; rfl
theorem meas_back {t F : Int} {j : Nat} (h : F = stp t (-(j : Int))) (hj : j ≤ 511) : ((t - F) % 4294967296).toNat = j := by
  subst h
  unfold stp
  rw [wrap32]
  omega

def WholeIs (w : World) (h : List A) (p : A) : Ending → World → Prop := fun e w' => e = .returned (.tuple #[.int .u32 (wholeF h p).1, .int .i64 ((wholeF h p).2 : Int)]) ∧ Below w.heap.size w w'
set_option maxRecDepth 100000 in
set_option maxHeartbeats 6000000 in
theorem whole {w : World} {Z g b1 b2 : Nat} {x : S} {vs : Int → Value} {vw : Int → Int → Value} {m1 m2 : Lit → Option Value} (H : Has Z w g b1 b2 x vs vw m1 m2) (hlen : x.held.length ≤ 512) (p : A) (pp : Option Addr) (np cp : Nat) (hp : getH x.held p.tsn = some p) (hu : isU32 p.tsn) :
    Calls Try.prog 24 #[.pointer (some ⟨g, 0, none⟩), .agg (row p (.slice pp np cp)).toArray] w (WholeIs w x.held p) := by
  obtain ⟨W0, hW0⟩ : ∃ W0, w = W0 := ⟨w, rfl⟩
  have HH := Lib.hid (fun u (hb : Below W0.heap.size W0 u) => (hW0 ▸ H : Has Z W0 g b1 b2 x vs vw m1 m2).below hb)
  have HB0 := Lib.hid (BackAt.start hp hu)
  have HU := Lib.hid hu
  have HLEN := Lib.hid hlen
  rw [hW0]
  clear hW0 H hp hu hlen
  go_enter Try.func24, Try.ntmps24
  go_upto_region 3 with (first
    | ((with_reducible refine wpl_boxAt rfl 45 (.tmp 1) rfl (row p (.slice pp np cp)).toArray ?_ ?_); rfl; go_must (intro w1 hat1 hb1 hs1; have HB1 := Lib.hid hb1; have HS1 := Lib.hid hs1; have k0 := hat1.cell 0; simp [row] at k0; clear hb1 hs1))
    | ((with_reducible refine wpl_loadAt rfl 45 (.tmp 3) rfl W0.heap.size 45 (row p (.slice pp np cp)).toArray hat1 _ Try.underlying45 rfl (by kernel_rfl) ?_ ?_); rfl)
    | ((with_reducible refine wpl_allocAt rfl 45 rfl (row zA (.slice none 0 0)).toArray (by kernel_rfl) ?_); go_must (intro w2 hat2 hb2 hs2; have HB2 := Lib.hid (HB1.out.trans (hb2.mono HB1.out.size)); have HS2 := Lib.hid hs2; have HP2 := Lib.hid (hat1.ext hb2); clear hb2 hs2 hat1 k0))
    | ((with_reducible refine wpl_storeR rfl 45 (.tmp 6) (.tmp 14) rfl rfl w1.heap.size 45 (row zA (.slice none 0 0)).toArray (row p (.slice pp np cp)).toArray ?_ ?_ hat2 (by kernel_rfl) ?_ ?_ ?_); rfl; rfl; rfl; (simp [row, Value.oneCell']); go_must (intro w3 hat3 hg3; have HB3 := Lib.hid (below_grown HB2.out hg3 HB2.out.size (by have := HS1.out; omega)); have HP3 := Lib.hid (HP2.out.grown hg3 (by have := HS1.out; omega)); have HQ3 := Lib.hid hat3; clear hg3 hat2 hat3 HP2)))
  simp [Act.put]
  go_loopw [4, 5, 6] (fun v4 v5 v6 wr => v5 = .int .i64 0 ∧ ∃ (j : Nat) (q : A) (qp : Option Addr) (qn qc g6 : Nat) (F : Int), v4 = .int .u32 F ∧ v6 = .pointer (some ⟨g6, 0, none⟩) ∧ Hid (BackAt x.held p j q F) ∧ Hid (At wr g6 45 (row q (.slice qp qn qc)).toArray) ∧ Hid (W0.heap.size < g6) ∧ Hid (Below W0.heap.size W0 wr) ∧ Hid (At wr W0.heap.size 45 (row p (.slice pp np cp)).toArray)) (fun v4 _ _ _ => 600 - ((p.tsn - intOf v4) % 4294967296).toNat)
  case atStart => exact ⟨rfl, 0, p, pp, np, cp, w1.heap.size, p.tsn, rfl, rfl, HB0.out, HQ3.out, by have := HS1.out; show _ < _; omega, HB3.out, HP3.out⟩
  case round =>
    clear HB0 HB1 HS1 HB2 HS2 HB3 HP3 HQ3
    obtain ⟨rfl, j, q, qp, qn, qc, g6, F, rfl, rfl, HJ, HQ, HG6, HBL, HP⟩ := hrel
    have c3 := HQ.out.cell 3
    simp [row] at c3
    have HHr := Lib.hid (HH.out wr HBL.out)
    have d0 := HHr.out.row.cell 0
    simp [boxA] at d0
    obtain ⟨bg, hbg⟩ : ∃ bg, q.bg = bg := ⟨_, rfl⟩
    rw [hbg] at c3
    cases bg with
    | true =>
      have HW := Lib.hid (whole_some (HJ.out.bg hbg))
      have HUF := Lib.hid (show isU32 F by rw [HJ.out.1]; exact u32_wrap _)
      clear hbg HJ
      go_upto_region 12 with fail
      go_loopw [4, 5, 9] (fun v4 v5 v9 w2 => ∃ (i : Nat) (t : Int), v4 = .int .u32 F ∧ v5 = .int .i64 (i : Int) ∧ v9 = .int .u32 t ∧ Hid (FwdAt x.held p F i t) ∧ Hid (isU32 t) ∧ Hid (Below W0.heap.size W0 w2) ∧ Hid (At w2 W0.heap.size 45 (row p (.slice pp np cp)).toArray)) (fun _ v5 _ _ => 600 - (intOf v5).toNat)
      case atStart => exact ⟨0, F, rfl, rfl, rfl, FwdAt.start HUF.out, HUF.out, HBL.out, HP.out⟩
      case round =>
        clear HBL HP HQ HHr d0 c3
        obtain ⟨i, t, rfl, rfl, rfl, HFW, HUT, HBL2, HP2⟩ := hrel
        have HHr := Lib.hid (HH.out wr HBL2.out)
        have d0 := HHr.out.row.cell 0
        simp [boxA] at d0
        have hib : (i : Int) ≤ 512 := by have := HFW.out.2.1; omega
        obtain ⟨r, rp, rc, th, hlook, hcase⟩ := look_case HHr.out t
        obtain ⟨rn, hrn⟩ : ∃ rn, r.data.length = rn := ⟨_, rfl⟩
        obtain ⟨al, hal⟩ : ∃ al, alikeB r p = al := ⟨_, rfl⟩
        obtain ⟨en, hen⟩ : ∃ en, r.en = en := ⟨_, rfl⟩
        obtain ⟨bg, hbg⟩ : ∃ bg, r.bg = bg := ⟨_, rfl⟩
        obtain ⟨bf, hbf⟩ : ∃ bf, decide (t = F) = bf := ⟨_, rfl⟩
        have bf1 : (t == F) = bf := by rw [← hbf, Bool.eq_iff_iff]; simp
        obtain ⟨ne, hne⟩ : ∃ ne, (bg != bf) = ne := ⟨_, rfl⟩
        rw [hrn] at hlook
        have HLK := Lib.hid (by have h1 := HHr.out.look1 t HUT.out; rw [hlook] at h1; exact h1)
        have HAL := Lib.hid hal
        have HEN := Lib.hid hen
        have HBG := Lib.hid hbg
        have hc : (th = false ∧ Hid (fwdF 600 x.held p F F 0 = none)) ∨ (th = true ∧ al = false ∧ Hid (fwdF 600 x.held p F F 0 = none)) ∨ (th = true ∧ al = true ∧ ne = true ∧ Hid (fwdF 600 x.held p F F 0 = none)) ∨ (th = true ∧ al = true ∧ ne = false ∧ en = true ∧ Hid (fwdF 600 x.held p F F 0 = some (i + 1))) ∨ (th = true ∧ al = true ∧ ne = false ∧ en = false ∧ Hid (FwdAt x.held p F (i + 1) (nxt t))) := by
          rcases hcase with ⟨h1, h2⟩ | ⟨h1, h2⟩
          · exact .inl ⟨h1, HFW.out.gone h2⟩
          · cases al with
            | false => exact .inr (.inl ⟨h1, rfl, HFW.out.stop h2 (.inl hal)⟩)
            | true =>
              cases ne with
              | true => exact .inr (.inr (.inl ⟨h1, rfl, rfl, HFW.out.stop h2 (.inr (by rw [hbg, hbf]; simpa using hne))⟩))
              | false =>
                have hb2 : r.bg = decide (t = F) := by rw [hbg, hbf]; simpa using hne
                cases en with
                | true => exact .inr (.inr (.inr (.inl ⟨h1, rfl, rfl, rfl, HFW.out.done h2 hal hb2 hen⟩)))
                | false => exact .inr (.inr (.inr (.inr ⟨h1, rfl, rfl, rfl, HFW.out.next h2 hal hb2 hen HLEN.out⟩)))
        clear hlook hcase hrn hal hen hbg hbf
        rcases hc with ⟨rfl, HW2⟩ | ⟨rfl, rfl, HW2⟩ | ⟨rfl, rfl, rfl, HW2⟩ | ⟨rfl, rfl, rfl, rfl, HW2⟩ | ⟨rfl, rfl, rfl, rfl, HN⟩
        · clear hne
          go_wp2_with (first
            | ((with_reducible refine wpl_lookOk rfl 72 (.tmp 51) (.tmp 52) true rfl b1 (.int .u32 t) _ ?_ ?_ HLK.out ?_); rfl; rfl)
            | ((with_reducible refine wpl_allocAt rfl 45 rfl (row zA (.slice none 0 0)).toArray (by kernel_rfl) ?_); have _t := HLK; clear _t; go_must (intro u1 hat1 hb1 hs1; have HBU1 := Lib.hid hb1; have HSU1 := Lib.hid hs1; clear hb1 hs1 HLK))
            | ((with_reducible refine wpl_storeR rfl 45 (.tmp 10) (.tmp 54) rfl rfl wr.heap.size 45 (row zA (.slice none 0 0)).toArray (row r (.slice rp rn rc)).toArray ?_ ?_ hat1 (by kernel_rfl) ?_ ?_ ?_); rfl; rfl; rfl; (simp [row, Value.oneCell']); go_must (intro u2 hat2 hg2; have HBU2 := Lib.hid (HBL2.out.trans ((HBU1.out.grown hg2 HBU1.out.size (fun q e => by cases e; exact Nat.le_refl _)).mono HBL2.out.size)); have HP2' := Lib.hid ((HP2.out.ext HBU1.out).grown hg2 (by have := HP2.out.lt; omega)); have HR2 := Lib.hid hat2; have e0 := hat2.cell 0; have e1 := hat2.cell 1; have e2 := hat2.cell 2; have e3 := hat2.cell 3; have e4 := hat2.cell 4; have e5 := hat2.cell 5; have e6 := hat2.cell 6; simp [row] at e0 e1 e2 e3 e4 e5 e6; rw [HEN.out] at e4; rw [HBG.out] at e3; have f0 := HP2'.out.cell 0; have f1 := HP2'.out.cell 1; have f2 := HP2'.out.cell 2; have f3 := HP2'.out.cell 3; have f4 := HP2'.out.cell 4; have f5 := HP2'.out.cell 5; have f6 := HP2'.out.cell 6; simp [row] at f0 f1 f2 f3 f4 f5 f6; clear hg2 hat1))
            | (go_at_call 31; go_must (refine (alikeX _ _ _ _ _ _ _ _ _ _ _ _ _ _ _).mono ?_; rintro e u3 ⟨he, hb3⟩; rw [show (r.stream == p.stream && r.seq == p.seq && r.un == p.un) = _ from HAL.out] at he; subst he; have HBU3 := Lib.hid (HBU2.out.trans (hb3.mono HBU2.out.size)); have HP3 := Lib.hid (HP2'.out.ext hb3); have HR3 := Lib.hid (hat2.ext hb3); clear e0 e1 e2 e3 e4 e5 e6 f0 f1 f2 f3 f4 f5 f6; have g_0 := HR3.out.cell 0; have g_1 := HR3.out.cell 1; have g_2 := HR3.out.cell 2; have g_3 := HR3.out.cell 3; have g_4 := HR3.out.cell 4; have g_5 := HR3.out.cell 5; have g_6 := HR3.out.cell 6; simp [row] at g_0 g_1 g_2 g_3 g_4 g_5 g_6; rw [HEN.out] at g_4; rw [HBG.out] at g_3; clear hb3 hat2 HAL)))
          go_ret2
          exact ⟨by rw [show wholeF x.held p = _ from HW.out, show fwdF 600 x.held p F F 0 = none from HW2.out]; rfl, HBU2.out⟩
        · clear hne
          go_wp2_with (first
            | ((with_reducible refine wpl_lookOk rfl 72 (.tmp 51) (.tmp 52) true rfl b1 (.int .u32 t) _ ?_ ?_ HLK.out ?_); rfl; rfl)
            | ((with_reducible refine wpl_allocAt rfl 45 rfl (row zA (.slice none 0 0)).toArray (by kernel_rfl) ?_); have _t := HLK; clear _t; go_must (intro u1 hat1 hb1 hs1; have HBU1 := Lib.hid hb1; have HSU1 := Lib.hid hs1; clear hb1 hs1 HLK))
            | ((with_reducible refine wpl_storeR rfl 45 (.tmp 10) (.tmp 54) rfl rfl wr.heap.size 45 (row zA (.slice none 0 0)).toArray (row r (.slice rp rn rc)).toArray ?_ ?_ hat1 (by kernel_rfl) ?_ ?_ ?_); rfl; rfl; rfl; (simp [row, Value.oneCell']); go_must (intro u2 hat2 hg2; have HBU2 := Lib.hid (HBL2.out.trans ((HBU1.out.grown hg2 HBU1.out.size (fun q e => by cases e; exact Nat.le_refl _)).mono HBL2.out.size)); have HP2' := Lib.hid ((HP2.out.ext HBU1.out).grown hg2 (by have := HP2.out.lt; omega)); have HR2 := Lib.hid hat2; have e0 := hat2.cell 0; have e1 := hat2.cell 1; have e2 := hat2.cell 2; have e3 := hat2.cell 3; have e4 := hat2.cell 4; have e5 := hat2.cell 5; have e6 := hat2.cell 6; simp [row] at e0 e1 e2 e3 e4 e5 e6; rw [HEN.out] at e4; rw [HBG.out] at e3; have f0 := HP2'.out.cell 0; have f1 := HP2'.out.cell 1; have f2 := HP2'.out.cell 2; have f3 := HP2'.out.cell 3; have f4 := HP2'.out.cell 4; have f5 := HP2'.out.cell 5; have f6 := HP2'.out.cell 6; simp [row] at f0 f1 f2 f3 f4 f5 f6; clear hg2 hat1))
            | (go_at_call 31; go_must (refine (alikeX _ _ _ _ _ _ _ _ _ _ _ _ _ _ _).mono ?_; rintro e u3 ⟨he, hb3⟩; rw [show (r.stream == p.stream && r.seq == p.seq && r.un == p.un) = _ from HAL.out] at he; subst he; have HBU3 := Lib.hid (HBU2.out.trans (hb3.mono HBU2.out.size)); have HP3 := Lib.hid (HP2'.out.ext hb3); have HR3 := Lib.hid (hat2.ext hb3); clear e0 e1 e2 e3 e4 e5 e6 f0 f1 f2 f3 f4 f5 f6; have g_0 := HR3.out.cell 0; have g_1 := HR3.out.cell 1; have g_2 := HR3.out.cell 2; have g_3 := HR3.out.cell 3; have g_4 := HR3.out.cell 4; have g_5 := HR3.out.cell 5; have g_6 := HR3.out.cell 6; simp [row] at g_0 g_1 g_2 g_3 g_4 g_5 g_6; rw [HEN.out] at g_4; rw [HBG.out] at g_3; clear hb3 hat2 HAL)))
          go_ret2
          exact ⟨by rw [show wholeF x.held p = _ from HW.out, show fwdF 600 x.held p F F 0 = none from HW2.out]; rfl, HBU3.out⟩
        · rcases bne_two hne with ⟨rfl, rfl⟩ | ⟨rfl, rfl⟩
          · clear hne
            go_wp2_with (first
              | ((with_reducible refine wpl_lookOk rfl 72 (.tmp 51) (.tmp 52) true rfl b1 (.int .u32 t) _ ?_ ?_ HLK.out ?_); rfl; rfl)
              | ((with_reducible refine wpl_allocAt rfl 45 rfl (row zA (.slice none 0 0)).toArray (by kernel_rfl) ?_); have _t := HLK; clear _t; go_must (intro u1 hat1 hb1 hs1; have HBU1 := Lib.hid hb1; have HSU1 := Lib.hid hs1; clear hb1 hs1 HLK))
              | ((with_reducible refine wpl_storeR rfl 45 (.tmp 10) (.tmp 54) rfl rfl wr.heap.size 45 (row zA (.slice none 0 0)).toArray (row r (.slice rp rn rc)).toArray ?_ ?_ hat1 (by kernel_rfl) ?_ ?_ ?_); rfl; rfl; rfl; (simp [row, Value.oneCell']); go_must (intro u2 hat2 hg2; have HBU2 := Lib.hid (HBL2.out.trans ((HBU1.out.grown hg2 HBU1.out.size (fun q e => by cases e; exact Nat.le_refl _)).mono HBL2.out.size)); have HP2' := Lib.hid ((HP2.out.ext HBU1.out).grown hg2 (by have := HP2.out.lt; omega)); have HR2 := Lib.hid hat2; have e0 := hat2.cell 0; have e1 := hat2.cell 1; have e2 := hat2.cell 2; have e3 := hat2.cell 3; have e4 := hat2.cell 4; have e5 := hat2.cell 5; have e6 := hat2.cell 6; simp [row] at e0 e1 e2 e3 e4 e5 e6; rw [HEN.out] at e4; rw [HBG.out] at e3; have f0 := HP2'.out.cell 0; have f1 := HP2'.out.cell 1; have f2 := HP2'.out.cell 2; have f3 := HP2'.out.cell 3; have f4 := HP2'.out.cell 4; have f5 := HP2'.out.cell 5; have f6 := HP2'.out.cell 6; simp [row] at f0 f1 f2 f3 f4 f5 f6; clear hg2 hat1))
              | (go_at_call 31; go_must (refine (alikeX _ _ _ _ _ _ _ _ _ _ _ _ _ _ _).mono ?_; rintro e u3 ⟨he, hb3⟩; rw [show (r.stream == p.stream && r.seq == p.seq && r.un == p.un) = _ from HAL.out] at he; subst he; have HBU3 := Lib.hid (HBU2.out.trans (hb3.mono HBU2.out.size)); have HP3 := Lib.hid (HP2'.out.ext hb3); have HR3 := Lib.hid (hat2.ext hb3); clear e0 e1 e2 e3 e4 e5 e6 f0 f1 f2 f3 f4 f5 f6; have g_0 := HR3.out.cell 0; have g_1 := HR3.out.cell 1; have g_2 := HR3.out.cell 2; have g_3 := HR3.out.cell 3; have g_4 := HR3.out.cell 4; have g_5 := HR3.out.cell 5; have g_6 := HR3.out.cell 6; simp [row] at g_0 g_1 g_2 g_3 g_4 g_5 g_6; rw [HEN.out] at g_4; rw [HBG.out] at g_3; clear hb3 hat2 HAL)))
            go_ret2
            exact ⟨by rw [show wholeF x.held p = _ from HW.out, show fwdF 600 x.held p F F 0 = none from HW2.out]; rfl, HBU3.out⟩
          · clear hne
            go_wp2_with (first
              | ((with_reducible refine wpl_lookOk rfl 72 (.tmp 51) (.tmp 52) true rfl b1 (.int .u32 t) _ ?_ ?_ HLK.out ?_); rfl; rfl)
              | ((with_reducible refine wpl_allocAt rfl 45 rfl (row zA (.slice none 0 0)).toArray (by kernel_rfl) ?_); have _t := HLK; clear _t; go_must (intro u1 hat1 hb1 hs1; have HBU1 := Lib.hid hb1; have HSU1 := Lib.hid hs1; clear hb1 hs1 HLK))
              | ((with_reducible refine wpl_storeR rfl 45 (.tmp 10) (.tmp 54) rfl rfl wr.heap.size 45 (row zA (.slice none 0 0)).toArray (row r (.slice rp rn rc)).toArray ?_ ?_ hat1 (by kernel_rfl) ?_ ?_ ?_); rfl; rfl; rfl; (simp [row, Value.oneCell']); go_must (intro u2 hat2 hg2; have HBU2 := Lib.hid (HBL2.out.trans ((HBU1.out.grown hg2 HBU1.out.size (fun q e => by cases e; exact Nat.le_refl _)).mono HBL2.out.size)); have HP2' := Lib.hid ((HP2.out.ext HBU1.out).grown hg2 (by have := HP2.out.lt; omega)); have HR2 := Lib.hid hat2; have e0 := hat2.cell 0; have e1 := hat2.cell 1; have e2 := hat2.cell 2; have e3 := hat2.cell 3; have e4 := hat2.cell 4; have e5 := hat2.cell 5; have e6 := hat2.cell 6; simp [row] at e0 e1 e2 e3 e4 e5 e6; rw [HEN.out] at e4; rw [HBG.out] at e3; have f0 := HP2'.out.cell 0; have f1 := HP2'.out.cell 1; have f2 := HP2'.out.cell 2; have f3 := HP2'.out.cell 3; have f4 := HP2'.out.cell 4; have f5 := HP2'.out.cell 5; have f6 := HP2'.out.cell 6; simp [row] at f0 f1 f2 f3 f4 f5 f6; clear hg2 hat1))
              | (go_at_call 31; go_must (refine (alikeX _ _ _ _ _ _ _ _ _ _ _ _ _ _ _).mono ?_; rintro e u3 ⟨he, hb3⟩; rw [show (r.stream == p.stream && r.seq == p.seq && r.un == p.un) = _ from HAL.out] at he; subst he; have HBU3 := Lib.hid (HBU2.out.trans (hb3.mono HBU2.out.size)); have HP3 := Lib.hid (HP2'.out.ext hb3); have HR3 := Lib.hid (hat2.ext hb3); clear e0 e1 e2 e3 e4 e5 e6 f0 f1 f2 f3 f4 f5 f6; have g_0 := HR3.out.cell 0; have g_1 := HR3.out.cell 1; have g_2 := HR3.out.cell 2; have g_3 := HR3.out.cell 3; have g_4 := HR3.out.cell 4; have g_5 := HR3.out.cell 5; have g_6 := HR3.out.cell 6; simp [row] at g_0 g_1 g_2 g_3 g_4 g_5 g_6; rw [HEN.out] at g_4; rw [HBG.out] at g_3; clear hb3 hat2 HAL)))
            go_ret2
            exact ⟨by rw [show wholeF x.held p = _ from HW.out, show fwdF 600 x.held p F F 0 = none from HW2.out]; rfl, HBU3.out⟩
        · rcases beq_two hne with ⟨rfl, rfl⟩ | ⟨rfl, rfl⟩
          · clear hne
            go_wp2_with (first
              | ((with_reducible refine wpl_lookOk rfl 72 (.tmp 51) (.tmp 52) true rfl b1 (.int .u32 t) _ ?_ ?_ HLK.out ?_); rfl; rfl)
              | ((with_reducible refine wpl_allocAt rfl 45 rfl (row zA (.slice none 0 0)).toArray (by kernel_rfl) ?_); have _t := HLK; clear _t; go_must (intro u1 hat1 hb1 hs1; have HBU1 := Lib.hid hb1; have HSU1 := Lib.hid hs1; clear hb1 hs1 HLK))
              | ((with_reducible refine wpl_storeR rfl 45 (.tmp 10) (.tmp 54) rfl rfl wr.heap.size 45 (row zA (.slice none 0 0)).toArray (row r (.slice rp rn rc)).toArray ?_ ?_ hat1 (by kernel_rfl) ?_ ?_ ?_); rfl; rfl; rfl; (simp [row, Value.oneCell']); go_must (intro u2 hat2 hg2; have HBU2 := Lib.hid (HBL2.out.trans ((HBU1.out.grown hg2 HBU1.out.size (fun q e => by cases e; exact Nat.le_refl _)).mono HBL2.out.size)); have HP2' := Lib.hid ((HP2.out.ext HBU1.out).grown hg2 (by have := HP2.out.lt; omega)); have HR2 := Lib.hid hat2; have e0 := hat2.cell 0; have e1 := hat2.cell 1; have e2 := hat2.cell 2; have e3 := hat2.cell 3; have e4 := hat2.cell 4; have e5 := hat2.cell 5; have e6 := hat2.cell 6; simp [row] at e0 e1 e2 e3 e4 e5 e6; rw [HEN.out] at e4; rw [HBG.out] at e3; have f0 := HP2'.out.cell 0; have f1 := HP2'.out.cell 1; have f2 := HP2'.out.cell 2; have f3 := HP2'.out.cell 3; have f4 := HP2'.out.cell 4; have f5 := HP2'.out.cell 5; have f6 := HP2'.out.cell 6; simp [row] at f0 f1 f2 f3 f4 f5 f6; clear hg2 hat1))
              | (go_at_call 31; go_must (refine (alikeX _ _ _ _ _ _ _ _ _ _ _ _ _ _ _).mono ?_; rintro e u3 ⟨he, hb3⟩; rw [show (r.stream == p.stream && r.seq == p.seq && r.un == p.un) = _ from HAL.out] at he; subst he; have HBU3 := Lib.hid (HBU2.out.trans (hb3.mono HBU2.out.size)); have HP3 := Lib.hid (HP2'.out.ext hb3); have HR3 := Lib.hid (hat2.ext hb3); clear e0 e1 e2 e3 e4 e5 e6 f0 f1 f2 f3 f4 f5 f6; have g_0 := HR3.out.cell 0; have g_1 := HR3.out.cell 1; have g_2 := HR3.out.cell 2; have g_3 := HR3.out.cell 3; have g_4 := HR3.out.cell 4; have g_5 := HR3.out.cell 5; have g_6 := HR3.out.cell 6; simp [row] at g_0 g_1 g_2 g_3 g_4 g_5 g_6; rw [HEN.out] at g_4; rw [HBG.out] at g_3; clear hb3 hat2 HAL)))
            go_ret2
            have hw : wholeF x.held p = (F, i + 1) := by rw [show wholeF x.held p = _ from HW.out, show fwdF 600 x.held p F F 0 = some (i + 1) from HW2.out]
            exact ⟨by rw [hw]; show _ = Ending.returned (.tuple #[.int .u32 F, .int .i64 ((i + 1 : Nat) : Int)]); rw [Int.natCast_add]; rfl, HBU3.out⟩
          · clear hne
            go_wp2_with (first
              | ((with_reducible refine wpl_lookOk rfl 72 (.tmp 51) (.tmp 52) true rfl b1 (.int .u32 t) _ ?_ ?_ HLK.out ?_); rfl; rfl)
              | ((with_reducible refine wpl_allocAt rfl 45 rfl (row zA (.slice none 0 0)).toArray (by kernel_rfl) ?_); have _t := HLK; clear _t; go_must (intro u1 hat1 hb1 hs1; have HBU1 := Lib.hid hb1; have HSU1 := Lib.hid hs1; clear hb1 hs1 HLK))
              | ((with_reducible refine wpl_storeR rfl 45 (.tmp 10) (.tmp 54) rfl rfl wr.heap.size 45 (row zA (.slice none 0 0)).toArray (row r (.slice rp rn rc)).toArray ?_ ?_ hat1 (by kernel_rfl) ?_ ?_ ?_); rfl; rfl; rfl; (simp [row, Value.oneCell']); go_must (intro u2 hat2 hg2; have HBU2 := Lib.hid (HBL2.out.trans ((HBU1.out.grown hg2 HBU1.out.size (fun q e => by cases e; exact Nat.le_refl _)).mono HBL2.out.size)); have HP2' := Lib.hid ((HP2.out.ext HBU1.out).grown hg2 (by have := HP2.out.lt; omega)); have HR2 := Lib.hid hat2; have e0 := hat2.cell 0; have e1 := hat2.cell 1; have e2 := hat2.cell 2; have e3 := hat2.cell 3; have e4 := hat2.cell 4; have e5 := hat2.cell 5; have e6 := hat2.cell 6; simp [row] at e0 e1 e2 e3 e4 e5 e6; rw [HEN.out] at e4; rw [HBG.out] at e3; have f0 := HP2'.out.cell 0; have f1 := HP2'.out.cell 1; have f2 := HP2'.out.cell 2; have f3 := HP2'.out.cell 3; have f4 := HP2'.out.cell 4; have f5 := HP2'.out.cell 5; have f6 := HP2'.out.cell 6; simp [row] at f0 f1 f2 f3 f4 f5 f6; clear hg2 hat1))
              | (go_at_call 31; go_must (refine (alikeX _ _ _ _ _ _ _ _ _ _ _ _ _ _ _).mono ?_; rintro e u3 ⟨he, hb3⟩; rw [show (r.stream == p.stream && r.seq == p.seq && r.un == p.un) = _ from HAL.out] at he; subst he; have HBU3 := Lib.hid (HBU2.out.trans (hb3.mono HBU2.out.size)); have HP3 := Lib.hid (HP2'.out.ext hb3); have HR3 := Lib.hid (hat2.ext hb3); clear e0 e1 e2 e3 e4 e5 e6 f0 f1 f2 f3 f4 f5 f6; have g_0 := HR3.out.cell 0; have g_1 := HR3.out.cell 1; have g_2 := HR3.out.cell 2; have g_3 := HR3.out.cell 3; have g_4 := HR3.out.cell 4; have g_5 := HR3.out.cell 5; have g_6 := HR3.out.cell 6; simp [row] at g_0 g_1 g_2 g_3 g_4 g_5 g_6; rw [HEN.out] at g_4; rw [HBG.out] at g_3; clear hb3 hat2 HAL)))
            go_ret2
            have hw : wholeF x.held p = (F, i + 1) := by rw [show wholeF x.held p = _ from HW.out, show fwdF 600 x.held p F F 0 = some (i + 1) from HW2.out]
            exact ⟨by rw [hw]; show _ = Ending.returned (.tuple #[.int .u32 F, .int .i64 ((i + 1 : Nat) : Int)]); rw [Int.natCast_add]; rfl, HBU3.out⟩
        · rcases beq_two hne with ⟨rfl, rfl⟩ | ⟨rfl, rfl⟩
          · clear hne
            go_wp2_with (first
              | ((with_reducible refine wpl_lookOk rfl 72 (.tmp 51) (.tmp 52) true rfl b1 (.int .u32 t) _ ?_ ?_ HLK.out ?_); rfl; rfl)
              | ((with_reducible refine wpl_allocAt rfl 45 rfl (row zA (.slice none 0 0)).toArray (by kernel_rfl) ?_); have _t := HLK; clear _t; go_must (intro u1 hat1 hb1 hs1; have HBU1 := Lib.hid hb1; have HSU1 := Lib.hid hs1; clear hb1 hs1 HLK))
              | ((with_reducible refine wpl_storeR rfl 45 (.tmp 10) (.tmp 54) rfl rfl wr.heap.size 45 (row zA (.slice none 0 0)).toArray (row r (.slice rp rn rc)).toArray ?_ ?_ hat1 (by kernel_rfl) ?_ ?_ ?_); rfl; rfl; rfl; (simp [row, Value.oneCell']); go_must (intro u2 hat2 hg2; have HBU2 := Lib.hid (HBL2.out.trans ((HBU1.out.grown hg2 HBU1.out.size (fun q e => by cases e; exact Nat.le_refl _)).mono HBL2.out.size)); have HP2' := Lib.hid ((HP2.out.ext HBU1.out).grown hg2 (by have := HP2.out.lt; omega)); have HR2 := Lib.hid hat2; have e0 := hat2.cell 0; have e1 := hat2.cell 1; have e2 := hat2.cell 2; have e3 := hat2.cell 3; have e4 := hat2.cell 4; have e5 := hat2.cell 5; have e6 := hat2.cell 6; simp [row] at e0 e1 e2 e3 e4 e5 e6; rw [HEN.out] at e4; rw [HBG.out] at e3; have f0 := HP2'.out.cell 0; have f1 := HP2'.out.cell 1; have f2 := HP2'.out.cell 2; have f3 := HP2'.out.cell 3; have f4 := HP2'.out.cell 4; have f5 := HP2'.out.cell 5; have f6 := HP2'.out.cell 6; simp [row] at f0 f1 f2 f3 f4 f5 f6; clear hg2 hat1))
              | (go_at_call 31; go_must (refine (alikeX _ _ _ _ _ _ _ _ _ _ _ _ _ _ _).mono ?_; rintro e u3 ⟨he, hb3⟩; rw [show (r.stream == p.stream && r.seq == p.seq && r.un == p.un) = _ from HAL.out] at he; subst he; have HBU3 := Lib.hid (HBU2.out.trans (hb3.mono HBU2.out.size)); have HP3 := Lib.hid (HP2'.out.ext hb3); have HR3 := Lib.hid (hat2.ext hb3); clear e0 e1 e2 e3 e4 e5 e6 f0 f1 f2 f3 f4 f5 f6; have g_0 := HR3.out.cell 0; have g_1 := HR3.out.cell 1; have g_2 := HR3.out.cell 2; have g_3 := HR3.out.cell 3; have g_4 := HR3.out.cell 4; have g_5 := HR3.out.cell 5; have g_6 := HR3.out.cell 6; simp [row] at g_0 g_1 g_2 g_3 g_4 g_5 g_6; rw [HEN.out] at g_4; rw [HBG.out] at g_3; clear hb3 hat2 HAL)))
            exact ⟨⟨i + 1, nxt t, rfl, by simp, by rw [show nxt t = _ from wrap32 _], HN.out, u32_wrap _, HBU3.out, HP3.out⟩, by simp [intOf]; omega⟩
          · clear hne
            go_wp2_with (first
              | ((with_reducible refine wpl_lookOk rfl 72 (.tmp 51) (.tmp 52) true rfl b1 (.int .u32 t) _ ?_ ?_ HLK.out ?_); rfl; rfl)
              | ((with_reducible refine wpl_allocAt rfl 45 rfl (row zA (.slice none 0 0)).toArray (by kernel_rfl) ?_); have _t := HLK; clear _t; go_must (intro u1 hat1 hb1 hs1; have HBU1 := Lib.hid hb1; have HSU1 := Lib.hid hs1; clear hb1 hs1 HLK))
              | ((with_reducible refine wpl_storeR rfl 45 (.tmp 10) (.tmp 54) rfl rfl wr.heap.size 45 (row zA (.slice none 0 0)).toArray (row r (.slice rp rn rc)).toArray ?_ ?_ hat1 (by kernel_rfl) ?_ ?_ ?_); rfl; rfl; rfl; (simp [row, Value.oneCell']); go_must (intro u2 hat2 hg2; have HBU2 := Lib.hid (HBL2.out.trans ((HBU1.out.grown hg2 HBU1.out.size (fun q e => by cases e; exact Nat.le_refl _)).mono HBL2.out.size)); have HP2' := Lib.hid ((HP2.out.ext HBU1.out).grown hg2 (by have := HP2.out.lt; omega)); have HR2 := Lib.hid hat2; have e0 := hat2.cell 0; have e1 := hat2.cell 1; have e2 := hat2.cell 2; have e3 := hat2.cell 3; have e4 := hat2.cell 4; have e5 := hat2.cell 5; have e6 := hat2.cell 6; simp [row] at e0 e1 e2 e3 e4 e5 e6; rw [HEN.out] at e4; rw [HBG.out] at e3; have f0 := HP2'.out.cell 0; have f1 := HP2'.out.cell 1; have f2 := HP2'.out.cell 2; have f3 := HP2'.out.cell 3; have f4 := HP2'.out.cell 4; have f5 := HP2'.out.cell 5; have f6 := HP2'.out.cell 6; simp [row] at f0 f1 f2 f3 f4 f5 f6; clear hg2 hat1))
              | (go_at_call 31; go_must (refine (alikeX _ _ _ _ _ _ _ _ _ _ _ _ _ _ _).mono ?_; rintro e u3 ⟨he, hb3⟩; rw [show (r.stream == p.stream && r.seq == p.seq && r.un == p.un) = _ from HAL.out] at he; subst he; have HBU3 := Lib.hid (HBU2.out.trans (hb3.mono HBU2.out.size)); have HP3 := Lib.hid (HP2'.out.ext hb3); have HR3 := Lib.hid (hat2.ext hb3); clear e0 e1 e2 e3 e4 e5 e6 f0 f1 f2 f3 f4 f5 f6; have g_0 := HR3.out.cell 0; have g_1 := HR3.out.cell 1; have g_2 := HR3.out.cell 2; have g_3 := HR3.out.cell 3; have g_4 := HR3.out.cell 4; have g_5 := HR3.out.cell 5; have g_6 := HR3.out.cell 6; simp [row] at g_0 g_1 g_2 g_3 g_4 g_5 g_6; rw [HEN.out] at g_4; rw [HBG.out] at g_3; clear hb3 hat2 HAL)))
            exact ⟨⟨i + 1, nxt t, rfl, by simp, by rw [show nxt t = _ from wrap32 _], HN.out, u32_wrap _, HBU3.out, HP3.out⟩, by simp [intOf]; omega⟩
    | false =>
      obtain ⟨r, rp, rc, th, hlook, hcase⟩ := look_case HHr.out (prv F)
      obtain ⟨rn, hrn⟩ : ∃ rn, r.data.length = rn := ⟨_, rfl⟩
      obtain ⟨al, hal⟩ : ∃ al, alikeB r p = al := ⟨_, rfl⟩
      obtain ⟨en, hen⟩ : ∃ en, r.en = en := ⟨_, rfl⟩
      rw [hrn] at hlook
      have HLK := Lib.hid (by have h1 := HHr.out.look1 (prv F) (u32_wrap _); rw [hlook] at h1; exact h1)
      have HAL := Lib.hid hal
      have HEN := Lib.hid hen
      have hc : (th = false ∧ Hid (wholeF x.held p = (0, 0))) ∨ (th = true ∧ al = false ∧ Hid (wholeF x.held p = (0, 0))) ∨ (th = true ∧ al = true ∧ en = true ∧ Hid (wholeF x.held p = (0, 0))) ∨ (th = true ∧ al = true ∧ en = false ∧ Hid (BackAt x.held p (j + 1) r (prv F))) := by
        rcases hcase with ⟨h1, h2⟩ | ⟨h1, h2⟩
        · exact .inl ⟨h1, whole_none (HJ.out.gone hbg h2)⟩
        · cases al with
          | false => exact .inr (.inl ⟨h1, rfl, whole_none (HJ.out.stop hbg h2 (.inl hal))⟩)
          | true =>
            cases en with
            | true => exact .inr (.inr (.inl ⟨h1, rfl, rfl, whole_none (HJ.out.stop hbg h2 (.inr hen))⟩))
            | false => exact .inr (.inr (.inr ⟨h1, rfl, rfl, HJ.out.next hbg h2 hal hen HLEN.out⟩))
      have HMJ := Lib.hid (meas_back HJ.out.1 HJ.out.2.1)
      have HJ5 := Lib.hid HJ.out.2.1
      clear hlook hcase hrn hal hen hbg HJ
      rcases hc with ⟨rfl, HW⟩ | ⟨rfl, rfl, HW⟩ | ⟨rfl, rfl, rfl, HW⟩ | ⟨rfl, rfl, rfl, HN⟩
      · go_wp2_with (first
          | ((with_reducible refine wpl_lookOk rfl 72 (.tmp 22) (.tmp 24) true rfl b1 (.int .u32 (prv F)) _ ?_ ?_ HLK.out ?_); rfl; rfl)
          | ((with_reducible refine wpl_allocAt rfl 45 rfl (row zA (.slice none 0 0)).toArray (by kernel_rfl) ?_); have _t := HLK; clear _t; go_must (intro u1 hat1 hb1 hs1; have HBU1 := Lib.hid hb1; have HSU1 := Lib.hid hs1; clear hb1 hs1 HLK))
          | ((with_reducible refine wpl_storeR rfl 45 (.tmp 7) (.tmp 26) rfl rfl wr.heap.size 45 (row zA (.slice none 0 0)).toArray (row r (.slice rp rn rc)).toArray ?_ ?_ hat1 (by kernel_rfl) ?_ ?_ ?_); rfl; rfl; rfl; (simp [row, Value.oneCell']); go_must (intro u2 hat2 hg2; have HBU2 := Lib.hid (HBL.out.trans ((HBU1.out.grown hg2 HBU1.out.size (fun q e => by cases e; exact Nat.le_refl _)).mono HBL.out.size)); have HSU2 := Lib.hid (Nat.le_trans (Nat.le_of_eq HSU1.out.symm) hg2.size); have HQ2 := Lib.hid ((HQ.out.ext HBU1.out).grown hg2 (by have := HQ.out.lt; omega)); have HP2 := Lib.hid ((HP.out.ext HBU1.out).grown hg2 (by have := HP.out.lt; omega)); have HR2 := Lib.hid hat2; have e0 := hat2.cell 0; have e1 := hat2.cell 1; have e2 := hat2.cell 2; have e3 := hat2.cell 3; have e4 := hat2.cell 4; have e5 := hat2.cell 5; have e6 := hat2.cell 6; simp [row] at e0 e1 e2 e3 e4 e5 e6; rw [HEN.out] at e4; have f0 := HP2.out.cell 0; have f1 := HP2.out.cell 1; have f2 := HP2.out.cell 2; have f3 := HP2.out.cell 3; have f4 := HP2.out.cell 4; have f5 := HP2.out.cell 5; have f6 := HP2.out.cell 6; simp [row] at f0 f1 f2 f3 f4 f5 f6; clear hg2 hat1 c3))
          | (go_at_call 31; go_must (refine (alikeX _ _ _ _ _ _ _ _ _ _ _ _ _ _ _).mono ?_; rintro e u3 ⟨he, hb3⟩; rw [show (r.stream == p.stream && r.seq == p.seq && r.un == p.un) = _ from HAL.out] at he; subst he; have HBU3 := Lib.hid (HBU2.out.trans (hb3.mono HBU2.out.size)); have HQ3 := Lib.hid (HQ2.out.ext hb3); have HP3 := Lib.hid (HP2.out.ext hb3); have HR3 := Lib.hid (hat2.ext hb3); clear e0 e1 e2 e3 e4 e5 e6 f0 f1 f2 f3 f4 f5 f6; have g_0 := HR3.out.cell 0; have g_1 := HR3.out.cell 1; have g_2 := HR3.out.cell 2; have g_3 := HR3.out.cell 3; have g_4 := HR3.out.cell 4; have g_5 := HR3.out.cell 5; have g_6 := HR3.out.cell 6; simp [row] at g_0 g_1 g_2 g_3 g_4 g_5 g_6; rw [HEN.out] at g_4; have HSU3 := Lib.hid (Nat.le_trans HSU2.out hb3.size); clear hb3 hat2 HAL)))
        go_ret2
        exact ⟨by rw [show wholeF x.held p = (0, 0) from HW.out]; rfl, HBU2.out⟩
      · go_wp2_with (first
          | ((with_reducible refine wpl_lookOk rfl 72 (.tmp 22) (.tmp 24) true rfl b1 (.int .u32 (prv F)) _ ?_ ?_ HLK.out ?_); rfl; rfl)
          | ((with_reducible refine wpl_allocAt rfl 45 rfl (row zA (.slice none 0 0)).toArray (by kernel_rfl) ?_); have _t := HLK; clear _t; go_must (intro u1 hat1 hb1 hs1; have HBU1 := Lib.hid hb1; have HSU1 := Lib.hid hs1; clear hb1 hs1 HLK))
          | ((with_reducible refine wpl_storeR rfl 45 (.tmp 7) (.tmp 26) rfl rfl wr.heap.size 45 (row zA (.slice none 0 0)).toArray (row r (.slice rp rn rc)).toArray ?_ ?_ hat1 (by kernel_rfl) ?_ ?_ ?_); rfl; rfl; rfl; (simp [row, Value.oneCell']); go_must (intro u2 hat2 hg2; have HBU2 := Lib.hid (HBL.out.trans ((HBU1.out.grown hg2 HBU1.out.size (fun q e => by cases e; exact Nat.le_refl _)).mono HBL.out.size)); have HSU2 := Lib.hid (Nat.le_trans (Nat.le_of_eq HSU1.out.symm) hg2.size); have HQ2 := Lib.hid ((HQ.out.ext HBU1.out).grown hg2 (by have := HQ.out.lt; omega)); have HP2 := Lib.hid ((HP.out.ext HBU1.out).grown hg2 (by have := HP.out.lt; omega)); have HR2 := Lib.hid hat2; have e0 := hat2.cell 0; have e1 := hat2.cell 1; have e2 := hat2.cell 2; have e3 := hat2.cell 3; have e4 := hat2.cell 4; have e5 := hat2.cell 5; have e6 := hat2.cell 6; simp [row] at e0 e1 e2 e3 e4 e5 e6; rw [HEN.out] at e4; have f0 := HP2.out.cell 0; have f1 := HP2.out.cell 1; have f2 := HP2.out.cell 2; have f3 := HP2.out.cell 3; have f4 := HP2.out.cell 4; have f5 := HP2.out.cell 5; have f6 := HP2.out.cell 6; simp [row] at f0 f1 f2 f3 f4 f5 f6; clear hg2 hat1 c3))
          | (go_at_call 31; go_must (refine (alikeX _ _ _ _ _ _ _ _ _ _ _ _ _ _ _).mono ?_; rintro e u3 ⟨he, hb3⟩; rw [show (r.stream == p.stream && r.seq == p.seq && r.un == p.un) = _ from HAL.out] at he; subst he; have HBU3 := Lib.hid (HBU2.out.trans (hb3.mono HBU2.out.size)); have HQ3 := Lib.hid (HQ2.out.ext hb3); have HP3 := Lib.hid (HP2.out.ext hb3); have HR3 := Lib.hid (hat2.ext hb3); clear e0 e1 e2 e3 e4 e5 e6 f0 f1 f2 f3 f4 f5 f6; have g_0 := HR3.out.cell 0; have g_1 := HR3.out.cell 1; have g_2 := HR3.out.cell 2; have g_3 := HR3.out.cell 3; have g_4 := HR3.out.cell 4; have g_5 := HR3.out.cell 5; have g_6 := HR3.out.cell 6; simp [row] at g_0 g_1 g_2 g_3 g_4 g_5 g_6; rw [HEN.out] at g_4; have HSU3 := Lib.hid (Nat.le_trans HSU2.out hb3.size); clear hb3 hat2 HAL)))
        go_ret2
        exact ⟨by rw [show wholeF x.held p = (0, 0) from HW.out]; rfl, HBU3.out⟩
      · go_wp2_with (first
          | ((with_reducible refine wpl_lookOk rfl 72 (.tmp 22) (.tmp 24) true rfl b1 (.int .u32 (prv F)) _ ?_ ?_ HLK.out ?_); rfl; rfl)
          | ((with_reducible refine wpl_allocAt rfl 45 rfl (row zA (.slice none 0 0)).toArray (by kernel_rfl) ?_); have _t := HLK; clear _t; go_must (intro u1 hat1 hb1 hs1; have HBU1 := Lib.hid hb1; have HSU1 := Lib.hid hs1; clear hb1 hs1 HLK))
          | ((with_reducible refine wpl_storeR rfl 45 (.tmp 7) (.tmp 26) rfl rfl wr.heap.size 45 (row zA (.slice none 0 0)).toArray (row r (.slice rp rn rc)).toArray ?_ ?_ hat1 (by kernel_rfl) ?_ ?_ ?_); rfl; rfl; rfl; (simp [row, Value.oneCell']); go_must (intro u2 hat2 hg2; have HBU2 := Lib.hid (HBL.out.trans ((HBU1.out.grown hg2 HBU1.out.size (fun q e => by cases e; exact Nat.le_refl _)).mono HBL.out.size)); have HSU2 := Lib.hid (Nat.le_trans (Nat.le_of_eq HSU1.out.symm) hg2.size); have HQ2 := Lib.hid ((HQ.out.ext HBU1.out).grown hg2 (by have := HQ.out.lt; omega)); have HP2 := Lib.hid ((HP.out.ext HBU1.out).grown hg2 (by have := HP.out.lt; omega)); have HR2 := Lib.hid hat2; have e0 := hat2.cell 0; have e1 := hat2.cell 1; have e2 := hat2.cell 2; have e3 := hat2.cell 3; have e4 := hat2.cell 4; have e5 := hat2.cell 5; have e6 := hat2.cell 6; simp [row] at e0 e1 e2 e3 e4 e5 e6; rw [HEN.out] at e4; have f0 := HP2.out.cell 0; have f1 := HP2.out.cell 1; have f2 := HP2.out.cell 2; have f3 := HP2.out.cell 3; have f4 := HP2.out.cell 4; have f5 := HP2.out.cell 5; have f6 := HP2.out.cell 6; simp [row] at f0 f1 f2 f3 f4 f5 f6; clear hg2 hat1 c3))
          | (go_at_call 31; go_must (refine (alikeX _ _ _ _ _ _ _ _ _ _ _ _ _ _ _).mono ?_; rintro e u3 ⟨he, hb3⟩; rw [show (r.stream == p.stream && r.seq == p.seq && r.un == p.un) = _ from HAL.out] at he; subst he; have HBU3 := Lib.hid (HBU2.out.trans (hb3.mono HBU2.out.size)); have HQ3 := Lib.hid (HQ2.out.ext hb3); have HP3 := Lib.hid (HP2.out.ext hb3); have HR3 := Lib.hid (hat2.ext hb3); clear e0 e1 e2 e3 e4 e5 e6 f0 f1 f2 f3 f4 f5 f6; have g_0 := HR3.out.cell 0; have g_1 := HR3.out.cell 1; have g_2 := HR3.out.cell 2; have g_3 := HR3.out.cell 3; have g_4 := HR3.out.cell 4; have g_5 := HR3.out.cell 5; have g_6 := HR3.out.cell 6; simp [row] at g_0 g_1 g_2 g_3 g_4 g_5 g_6; rw [HEN.out] at g_4; have HSU3 := Lib.hid (Nat.le_trans HSU2.out hb3.size); clear hb3 hat2 HAL)))
        go_ret2
        exact ⟨by rw [show wholeF x.held p = (0, 0) from HW.out]; rfl, HBU3.out⟩
      · go_wp2_with (first
          | ((with_reducible refine wpl_lookOk rfl 72 (.tmp 22) (.tmp 24) true rfl b1 (.int .u32 (prv F)) _ ?_ ?_ HLK.out ?_); rfl; rfl)
          | ((with_reducible refine wpl_allocAt rfl 45 rfl (row zA (.slice none 0 0)).toArray (by kernel_rfl) ?_); have _t := HLK; clear _t; go_must (intro u1 hat1 hb1 hs1; have HBU1 := Lib.hid hb1; have HSU1 := Lib.hid hs1; clear hb1 hs1 HLK))
          | ((with_reducible refine wpl_storeR rfl 45 (.tmp 7) (.tmp 26) rfl rfl wr.heap.size 45 (row zA (.slice none 0 0)).toArray (row r (.slice rp rn rc)).toArray ?_ ?_ hat1 (by kernel_rfl) ?_ ?_ ?_); rfl; rfl; rfl; (simp [row, Value.oneCell']); go_must (intro u2 hat2 hg2; have HBU2 := Lib.hid (HBL.out.trans ((HBU1.out.grown hg2 HBU1.out.size (fun q e => by cases e; exact Nat.le_refl _)).mono HBL.out.size)); have HSU2 := Lib.hid (Nat.le_trans (Nat.le_of_eq HSU1.out.symm) hg2.size); have HQ2 := Lib.hid ((HQ.out.ext HBU1.out).grown hg2 (by have := HQ.out.lt; omega)); have HP2 := Lib.hid ((HP.out.ext HBU1.out).grown hg2 (by have := HP.out.lt; omega)); have HR2 := Lib.hid hat2; have e0 := hat2.cell 0; have e1 := hat2.cell 1; have e2 := hat2.cell 2; have e3 := hat2.cell 3; have e4 := hat2.cell 4; have e5 := hat2.cell 5; have e6 := hat2.cell 6; simp [row] at e0 e1 e2 e3 e4 e5 e6; rw [HEN.out] at e4; have f0 := HP2.out.cell 0; have f1 := HP2.out.cell 1; have f2 := HP2.out.cell 2; have f3 := HP2.out.cell 3; have f4 := HP2.out.cell 4; have f5 := HP2.out.cell 5; have f6 := HP2.out.cell 6; simp [row] at f0 f1 f2 f3 f4 f5 f6; clear hg2 hat1 c3))
          | (go_at_call 31; go_must (refine (alikeX _ _ _ _ _ _ _ _ _ _ _ _ _ _ _).mono ?_; rintro e u3 ⟨he, hb3⟩; rw [show (r.stream == p.stream && r.seq == p.seq && r.un == p.un) = _ from HAL.out] at he; subst he; have HBU3 := Lib.hid (HBU2.out.trans (hb3.mono HBU2.out.size)); have HQ3 := Lib.hid (HQ2.out.ext hb3); have HP3 := Lib.hid (HP2.out.ext hb3); have HR3 := Lib.hid (hat2.ext hb3); clear e0 e1 e2 e3 e4 e5 e6 f0 f1 f2 f3 f4 f5 f6; have g_0 := HR3.out.cell 0; have g_1 := HR3.out.cell 1; have g_2 := HR3.out.cell 2; have g_3 := HR3.out.cell 3; have g_4 := HR3.out.cell 4; have g_5 := HR3.out.cell 5; have g_6 := HR3.out.cell 6; simp [row] at g_0 g_1 g_2 g_3 g_4 g_5 g_6; rw [HEN.out] at g_4; have HSU3 := Lib.hid (Nat.le_trans HSU2.out hb3.size); clear hb3 hat2 HAL))
          | ((with_reducible refine wpl_storeR rfl 45 (.tmp 6) (.tmp 40) rfl rfl g6 45 (row q (.slice qp qn qc)).toArray #[.int .u32 r.tsn, .int .u16 r.stream, .int .u16 r.seq, .bool r.bg, .bool false, .bool r.un, .slice rp rn rc] ?_ ?_ HQ3.out (by kernel_rfl) ?_ ?_ ?_); rfl; rfl; rfl; (simp [Value.oneCell']); go_must (intro u4 hat4 hg4; have HBU4 := Lib.hid (HBU3.out.grown hg4 HBU3.out.size (fun q e => by cases e; have := HG6.out; omega)); have HP4 := Lib.hid (HP3.out.grown hg4 (by have := HG6.out; omega)); clear g_0 g_1 g_2 g_3 g_4 g_5 g_6; have h0 := hat4.cell 0; have h1 := hat4.cell 1; have h2 := hat4.cell 2; have h3 := hat4.cell 3; have h4 := hat4.cell 4; have h5 := hat4.cell 5; have h6 := hat4.cell 6; simp at h0 h1 h2 h3 h4 h5 h6; clear hg4))
          | ((with_reducible refine wpl_allocAt rfl 45 rfl (row zA (.slice none 0 0)).toArray (by kernel_rfl) ?_); have _t := HBU4; clear _t; go_must (intro u5 hat5 hb5 hs5; have HBU5 := Lib.hid (HBU4.out.trans (hb5.mono HBU4.out.size)); have HP5 := Lib.hid (HP4.out.ext hb5); have HS4 := Lib.hid HBU4.out.size; have HL4 := Lib.hid HP4.out.lt; clear hb5 hs5 HBU4 HP4 h0 h1 h2 h3 h4 h5 h6))
          | ((with_reducible refine wpl_storeR rfl 45 (.tmp 6) (.tmp 43) rfl rfl u4.heap.size 45 (row zA (.slice none 0 0)).toArray #[.int .u32 r.tsn, .int .u16 r.stream, .int .u16 r.seq, .bool r.bg, .bool false, .bool r.un, .slice rp rn rc] ?_ ?_ hat5 (by kernel_rfl) ?_ ?_ ?_); rfl; rfl; rfl; (simp [Value.oneCell']); go_must (intro u6 hat6 hg6; have HBU6 := Lib.hid (HBU5.out.grown hg6 HBU5.out.size (fun q e => by cases e; exact HS4.out)); have HP6 := Lib.hid (HP5.out.grown hg6 (by have := HL4.out; omega)); have HQ6 := Lib.hid hat6; clear hg6 hat5; simp [Act.put])))
        go_roundw
        case rel =>
          refine ⟨rfl, j + 1, r, rp, rn, rc, u4.heap.size, prv F, ?_, rfl, HN.out, ?_, HL4.out, HBU6.out, HP6.out⟩
          · rw [show prv F = _ from wrap32 _]
          · have e : (row r (.slice rp rn rc)).toArray = #[.int .u32 r.tsn, .int .u16 r.stream, .int .u16 r.seq, .bool r.bg, .bool false, .bool r.un, .slice rp rn rc] := by simp [row, HEN.out]
            rw [e]; exact HQ6.out
        case measure =>
          have h1 := meas_back (show (F - 1) % 4294967296 = stp p.tsn (-((j + 1 : Nat) : Int)) by rw [← wrap32]; exact HN.out.1) HN.out.2.1
          have h2 := HMJ.out
          have h3 := HJ5.out
          simp only [intOf]
          omega
end Go.Proofs.Yteiiifonejkjbaa.Bx
