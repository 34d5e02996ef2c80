/-
  Contract: ready (25).
-/
import Derived.Test.YteiiifonejkjbaaBox2
import Derived.Maps.OwnSet
namespace Go.Proofs.Yteiiifonejkjbaa.Bx
open Go.RowKit Mem Cells Ops Pcs Go.Maps Go.Proofs.Yteiiifonejkjbaa.Open
set_option linter.unusedVariables false
set_option linter.unusedSimpArgs false
attribute [local go_sem] Oper.semAt_some

/-! Plain. -/
theorem getW_rm_same (l : List T) (s q : Int) : getW (rmW l s q) s q = none := by
  unfold getW rmW
  rw [List.find?_filter, List.find?_eq_none]
  intro y _
  cases h : (y.s == s && y.q == q) <;> simp_all
theorem getW_rm_other (l : List T) {s q s' q' : Int} (h : ¬ (s' = s ∧ q' = q)) : getW (rmW l s q) s' q' = getW l s' q' := by
  unfold getW rmW
  rw [List.find?_filter]
  congr 1
  funext y
  by_cases e : y.s = s' ∧ y.q = q'
  · obtain ⟨rfl, rfl⟩ := e
    have : (y.s == s && y.q == q) = false := by
      rw [Bool.and_eq_false_iff]
      by_cases e1 : y.s = s
      · right; simpa using fun e2 => h ⟨e1, e2⟩
      · left; simpa using e1
    simp [this]
  · have : (y.s == s' && y.q == q') = false := by
      rw [Bool.and_eq_false_iff]
      by_cases e1 : y.s = s'
      · right; simpa using fun e2 => e ⟨e1, e2⟩
      · left; simpa using e1
    simp [this]
theorem getW_mem {l : List T} {s q : Int} {y : T} (h : getW l s q = some y) : y ∈ l ∧ y.s = s ∧ y.q = q := by
  unfold getW at h
  have h1 := List.find?_some h
  rw [Bool.and_eq_true, beq_iff_eq, beq_iff_eq] at h1
  exact ⟨List.mem_of_find?_eq_some h, h1⟩
theorem rmW_none {l : List T} {s q : Int} (h : ∀ y ∈ l, ¬ (y.s = s ∧ y.q = q)) : rmW l s q = l := by
  unfold rmW
  rw [List.filter_eq_self]
  intro y hy
  have := h y hy
  cases hb : (y.s == s && y.q == q) with
  | false => rfl
  | true => rw [Bool.and_eq_true, beq_iff_eq, beq_iff_eq] at hb; exact absurd hb this
theorem rmW_length : ∀ {l : List T} {s q : Int} {y : T}, (l.map fun y => (y.s, y.q)).Nodup → getW l s q = some y → (rmW l s q).length + 1 = l.length
  | [], s, q, y, _, h => by simp [getW] at h
  | x :: l, s, q, y, hn, h => by
    rw [List.map_cons, List.nodup_cons] at hn
    by_cases e : x.s = s ∧ x.q = q
    · obtain ⟨rfl, rfl⟩ := e
      have : rmW (x :: l) x.s x.q = rmW l x.s x.q := by simp [rmW]
      rw [this, rmW_none (fun z hz e => hn.1 (List.mem_map.2 ⟨z, hz, by rw [e.1, e.2]⟩))]
      rfl
    · have hb : (x.s == s && x.q == q) = false := by
        cases hb : (x.s == s && x.q == q) with
        | false => rfl
        | true => rw [Bool.and_eq_true, beq_iff_eq, beq_iff_eq] at hb; exact absurd hb e
      have h1 : rmW (x :: l) s q = x :: rmW l s q := by simp only [rmW, List.filter_cons, hb, Bool.not_false, if_true]
      have h2 : getW l s q = some y := by
        unfold getW at h ⊢
        rw [List.find?_cons, hb] at h
        exact h
      rw [h1, List.length_cons, List.length_cons, rmW_length hn.2 h2]
theorem ready_none {l : List T} {nx : Nat → Int} {s : Nat} {out : List G} (h : getW l s (nx s) = none) : readyF (l.length + 1) l nx s out = (l, nx, out) := by
  unfold readyF; rw [h]
theorem ready_some {l : List T} {nx : Nat → Int} {s : Nat} {out : List G} {y : T} (hn : (l.map fun y => (y.s, y.q)).Nodup) (h : getW l s (nx s) = some y) :
    readyF (l.length + 1) l nx s out = readyF ((rmW l s (nx s)).length + 1) (rmW l s (nx s)) (Chunk.upd nx s (nx16 (nx s))) s (out ++ [⟨s, y.data⟩]) := by
  conv => lhs; unfold readyF
  rw [h, rmW_length hn h]
theorem boxA_get (b1 b2 : Nat) (nx : Nat → Int) (s : Nat) (h : s < 8) : (boxA b1 b2 nx)[2 + s]? = some (.int .u16 (nx s)) := by
  match s, h with
  | 0, _ | 1, _ | 2, _ | 3, _ | 4, _ | 5, _ | 6, _ | 7, _ => rfl
theorem boxA_set (b1 b2 : Nat) (nx : Nat → Int) (s : Nat) (h : s < 8) (v : Int) : (boxA b1 b2 nx).set! (2 + s) (.int .u16 v) = boxA b1 b2 (Chunk.upd nx s v) := by
  match s, h with
  | 0, _ | 1, _ | 2, _ | 3, _ | 4, _ | 5, _ | 6, _ | 7, _ => rfl
theorem okW_rm {x : S} {l : List T} {nx : Nat → Int} (h : S.ok { x with wait := l, next := nx }) (s : Nat) : S.ok { x with wait := rmW l s (nx s), next := Chunk.upd nx s (nx16 (nx s)) } := by
  obtain ⟨h1, ⟨h2, h3⟩, h4⟩ := h
  refine ⟨h1, ⟨?_, fun y hy => h3 y (List.mem_filter.1 hy).1⟩, fun i => ?_⟩
  · exact (List.Sublist.map _ (List.filter_sublist (l := l))).nodup h2
  · show isU16 (if i = s then nx16 (nx s) else nx i)
    split
    · exact u16_wrap _
    · exact h4 i
section
variable {w w' : World} {Z g b1 b2 : Nat} {x : S} {vs : Int → Value} {vw : Int → Int → Value} {m1 m2 : Lit → Option Value}
def lookW (l : List T) (vw : Int → Int → Value) (s q : Int) : Value := match getW l s q with
  | none => .tuple #[.agg #[.int .u16 0, .slice none 0 0], .bool false]
  | some _ => .tuple #[.agg #[.int .u16 s, vw s q], .bool true]
theorem Has.look2 (h : Has Z w g b1 b2 x vs vw m1 m2) (s q : Int) (hs : isU16 s) (hq : isU16 q) : (Instr.lookup 73 (.map (some b2)) (.agg #[.int .u16 s, .int .u16 q]) true).run Try.prog w = .ok (lookW x.wait vw s q) w := by
  rw [h.map2.look_ok keyed80 Try.underlying73 (zero32 w) (keyOf80 s q hs hq), h.says2 s q hs hq]
  unfold lookW
  cases getW x.wait s q <;> rfl
theorem Has.look2n (h : Has Z w g b1 b2 x vs vw m1 m2) (s q : Int) (hs : isU16 s) (hq : isU16 q) : (Instr.lookup 73 (.map (some b2)) (.agg #[.int .u16 s, .int .u16 q]) false).run Try.prog w = .ok (match getW x.wait s q with | none => .agg #[.int .u16 0, .slice none 0 0] | some _ => .agg #[.int .u16 s, vw s q]) w := by
  rw [h.map2.look keyed80 Try.underlying73 (zero32 w) (keyOf80 s q hs hq), h.says2 s q hs hq]
  cases getW x.wait s q <;> rfl
/-- One that waited is taken out. -/
theorem Has.dropW (h : Has Z w g b1 b2 x vs vw m1 m2) (s q : Int) (hs : isU16 s) (hq : isU16 q) {y : T} (hy : getW x.wait s q = some y) (ty : TypeId) :
    ∃ w', (Builtin.delete_ #[73, 80] ty #[.map (some b2), .agg #[.int .u16 s, .int .u16 q]]).run Try.prog w = .ok (.tuple #[]) w' ∧ Has Z w' g b1 b2 { x with wait := rmW x.wait s q } vs vw m1 (updM m2 (keyT s q) none) ∧ w.grownBy w' (some b2) := by
  have hm : m2 (keyT s q) = some (.agg #[.int .u16 s, vw s q]) := by rw [h.says2 s q hs hq, hy]; rfl
  obtain ⟨w', hrun, hmv, hg⟩ := h.map2.drop keyed80 Try.underlying73 (keyOf80 s q hs hq) ty (by rw [hm]; rfl)
  have hlen := rmW_length h.ok.2.1.1 hy
  refine ⟨w', hrun, ⟨at_map h.row hg h.map2.isMap, h.map1.kept hg (fun e => h.ne (Option.some.inj e)), ?_, h.ne, h.says1, ?_, fun a ha => row_map (h.rows1 a ha) hg h.map2.isMap, fun z hz => row_map (h.rows2 z (List.mem_filter.1 hz).1) hg h.map2.isMap, ?_⟩, hg⟩
  · rw [show (rmW x.wait s q).length = x.wait.length - 1 by omega]; exact hmv
  · intro s' q' hs' hq'
    by_cases e : s' = s ∧ q' = q
    · obtain ⟨rfl, rfl⟩ := e
      rw [updM_same]
      show none = (getW (rmW x.wait s' q') s' q').map _
      rw [getW_rm_same]; rfl
    · rw [updM_other _ _ (fun e2 => e (keyT_inj hs' hq' hs hq e2)), h.says2 s' q' hs' hq']
      show _ = (getW (rmW x.wait s q) s' q').map _
      rw [getW_rm_other _ e]
  · obtain ⟨h1, ⟨h2, h3⟩, h4⟩ := h.ok
    exact ⟨h1, ⟨(List.Sublist.map _ (List.filter_sublist (l := x.wait))).nodup h2, fun y hy => h3 y (List.mem_filter.1 hy).1⟩, h4⟩
/-- The number of a stream is written. -/
theorem Has.setNext (h : Has Z w g b1 b2 x vs vw m1 m2) (s : Nat) (v : Int) (hv : isU16 v) (hat : At w' g 75 (boxA b1 b2 (Chunk.upd x.next s v))) (hg : w.grownBy w' (some g)) : Has Z w' g b1 b2 { x with next := Chunk.upd x.next s v } vs vw m1 m2 := by
  refine ⟨hat, h.map1.kept hg (fun e => h.map1.ne_at h.row (Option.some.inj e)), h.map2.kept hg (fun e => h.map2.ne_at h.row (Option.some.inj e)), h.ne, h.says1, h.says2, fun a ha => (h.rows1 a ha).kept hg (.inr (own_ne (h.rows1 a ha) h.row (by decide))), fun y hy => (h.rows2 y hy).kept hg (.inr (own_ne (h.rows2 y hy) h.row (by decide))), ?_⟩
  obtain ⟨h1, h2, h4⟩ := h.ok
  refine ⟨h1, h2, fun i => ?_⟩
  show isU16 (if i = s then v else x.next i)
  split
  · exact hv
  · exact h4 i
theorem Has.twoW (h : Has Z w g b1 b2 x vs vw m1 m2) {s q : Int} {y : T} (e : getW x.wait s q = some y) : ∃ p c, vw s q = .slice p y.data.length c ∧ Row .u8 5 Z w (.slice p y.data.length c) y.data := by
  obtain ⟨h1, h2, h3⟩ := getW_mem e
  have hr := h.rows2 y h1
  rw [h2, h3] at hr
  obtain ⟨p, c, h4, _⟩ := hr.reads
  exact ⟨p, c, h4, h4 ▸ hr⟩
end
/-- A pointer to a new message. -/
def newMP (B : Nat) : Mono.Prp := ⟨fun v u => ∃ q, v = .pointer (some ⟨q, 0, none⟩) ∧ At u q 32 #[.int .u16 0, .slice none 0 0] ∧ B ≤ q, fun _ _ _ ⟨q, e, h, hB⟩ hb => ⟨q, e, h.ext hb, hB⟩⟩
def lenV : Value → Nat
  | .slice _ n _ => n
  | _ => 0
def ReadyIs (Z : Nat) (w : World) (g b1 b2 : Nat) (x : S) (s : Nat) (vs : Int → Value) (vw : Int → Int → Value) (m1 : Lit → Option Value) : Ending → World → Prop := fun e w' => ∃ v m2', e = .returned v ∧
  OwnG w.heap.size w' v (readyF (x.wait.length + 1) x.wait x.next s []).2.2 ∧ Has Z w' g b1 b2 { x with wait := (readyF (x.wait.length + 1) x.wait x.next s []).1, next := (readyF (x.wait.length + 1) x.wait x.next s []).2.1 } vs vw m1 m2' ∧ ButX (BX g b1 b2) w w'
set_option maxRecDepth 100000 in
set_option maxHeartbeats 4000000 in
theorem ready {w : World} {Z g b1 b2 : Nat} {x : S} {vs : Int → Value} {vw : Int → Int → Value} {m1 m2 : Lit → Option Value} (H : Has Z w g b1 b2 x vs vw m1 m2) (s : Nat) (hs : s < 8) (hlen : x.wait.length ≤ 999999) :
    Calls Try.prog 25 #[.pointer (some ⟨g, 0, none⟩), .int .u16 s] w (ReadyIs Z w g b1 b2 x s vs vw m1) := by
  obtain ⟨W0, hW0⟩ : ∃ W0, w = W0 := ⟨w, rfl⟩
  rw [hW0] at H ⊢
  clear hW0
  have s8 : (s : Int) < 8 := by omega
  have s0 : (0 : Int) ≤ (s : Int) := by omega
  have HS := Lib.hid (show isU16 (s : Int) by unfold isU16; omega)
  have HH := Lib.hid H
  have HLEN := Lib.hid hlen
  have HLT := Lib.hid H.lt
  clear H hlen
  go_enter Try.func25, Try.ntmps25
  go_upto_region 1 with fail
  go_loopw [4] (fun v4 wr => ∃ (l : List T) (nx : Nat → Int) (out : List G) (m2' : Lit → Option Value), Hid (Has Z wr g b1 b2 { x with wait := l, next := nx } vs vw m1 m2') ∧ Hid (OwnG W0.heap.size wr v4 out) ∧ Hid (ButX (BX g b1 b2) W0 wr) ∧ Hid (out.length + l.length = x.wait.length) ∧ Hid (readyF (x.wait.length + 1) x.wait x.next s [] = readyF (l.length + 1) l nx s out)) (fun v4 _ => x.wait.length - lenV v4)
  case atStart => exact ⟨x.wait, x.next, [], _, HH.out, OwnG.nil _ _, ButX.refl _ _, by show _ = _; simp, rfl⟩
  case round =>
    obtain ⟨l, nx, out, m2', HR, HO, HB, HL, HF⟩ := hrel
    have p2 := HR.out.row.cell (2 + s)
    have p1 := HR.out.row.cell 1
    rw [boxA_get _ _ _ _ hs] at p2
    simp [boxA] at p1
    obtain ⟨n, hn⟩ : ∃ n, nx s = n := ⟨_, rfl⟩
    have HNX := Lib.hid (show isU16 (nx s) from HR.out.ok.2.2 s)
    have HNN := Lib.hid hn
    simp only [hn] at p2
    clear hn
    go_upto_region 2 with (first
      | ((with_reducible refine wpl_allocAt rfl 80 rfl #[.int .u16 0, .int .u16 0] (by kernel_rfl) ?_); go_must (intro w1 hat1 hb1 hs1; have HB1 := Lib.hid hb1; have HS1 := Lib.hid hs1; clear hb1 hs1))
      | ((with_reducible refine wpl_storeR rfl 80 (.tmp 5) (.tmp 15) rfl rfl wr.heap.size 80 #[.int .u16 0, .int .u16 0] #[.int .u16 s, .int .u16 n] ?_ ?_ hat1 (by kernel_rfl) ?_ ?_ ?_); rfl; rfl; rfl; (simp [Value.oneCell']); go_must (intro w2 hat2 hg2; have HG2 := Lib.hid (HB1.out.grown hg2 HB1.out.size (fun q e => by cases e; exact Nat.le_refl _)); have HT2 := Lib.hid hat2; clear hg2 hat1 hat2 p1 p2)))
    have HR2 := Lib.hid (HR.out.below HG2.out)
    have HO2 := Lib.hid (OwnG.below HO.out HG2.out)
    have HB2 := Lib.hid (HB.out.trans ((ButX.ofBelow HG2.out (X := fun _ => False)).mono (fun k e => e.elim)))
    obtain ⟨ys, yv, th, hlk, hcase⟩ : ∃ ys yv th, lookW l vw s n = .tuple #[.agg #[.int .u16 ys, yv], .bool th] ∧ ((th = false ∧ getW l s (nx s) = none ∧ yv = .slice none 0 0) ∨ (th = true ∧ ys = (s : Int) ∧ ∃ y, getW l s (nx s) = some y ∧ yv = vw s n)) := by
      unfold lookW
      rw [← HNN.out]
      cases e : getW l s (nx s) with
      | none => exact ⟨0, .slice none 0 0, false, rfl, .inl ⟨rfl, rfl, rfl⟩⟩
      | some y => exact ⟨s, vw s (nx s), true, rfl, .inr ⟨rfl, rfl, y, rfl, rfl⟩⟩
    have HLK := Lib.hid hlk
    have HYV := Lib.hid (show (#[.int .u16 ys, yv] : Array Value).all (·.oneCell') = true by rcases hcase with ⟨_, _, rfl⟩ | ⟨_, _, y, hy, rfl⟩; simp [Value.oneCell']; obtain ⟨p, c, hp, _⟩ := HR.out.twoW hy; rw [← HNN.out]; rw [show vw s (nx s) = _ from hp]; simp [Value.oneCell'])
    have HU := Lib.hid (show isU16 n by rw [← HNN.out]; exact HNX.out)
    have HBS := Lib.hid HB.out.size
    clear hlk HR HO HB
    refine MonoU.wp_region_U [some 17, some 18, some 19, some 20, some 21, some 22, some 16, some 23, some 24, some 6, none, some 7] [some (.pointer (some ⟨g, 0, none⟩)), some (.pointer (some ⟨g, 0, none⟩)), some (.pointer (some ⟨g, 1, none⟩)), some (.map (some b2)), some (.agg #[.int .u16 s, .int .u16 n]), some (.tuple #[.agg #[.int .u16 ys, yv], .bool th]), some (.tuple #[.agg #[.int .u16 ys, yv], .bool th]), some (.agg #[.int .u16 ys, yv]), some (.bool th), none, none, some (.bool th)] (Bx.JN w2 9 10 32 (#[.int .u16 0, .slice none 0 0]) (#[.int .u16 ys, yv])) (by kernel_rfl) (by kernel_rfl) (by kernel_rfl) (fun _ => undef) ?_ ?_ ?_
    · exact Bx.JN.start _ _
    · simp only [MonoU.OpGoals, and_true]
      refine ⟨?_, ?_, ?_, ?_, ?_, ?_, ?_, ?_, ?_, ?_, ?_, ?_⟩
      · intro l u a x hJ hsz hjn hdep hsame hval hfresh
        have c1 := (HR2.out.below hJ.below).row.cell 1; simp [boxA] at c1
        have z0 : a.eval (.tmp 0) = .pointer (some ⟨g, 0, none⟩) := hsame 0 (by decide)
        simp [Act.eval] at z0
        exact wp_val (.pointer (some ⟨g, 0, none⟩)) x (by simp [execOp, z0, go_sem, c1]) ⟨_, rfl, (fun c e => by cases e; rfl), hJ.pure 0 _ (by decide) (by decide)⟩
      · intro l u a x hJ hsz hjn hdep hsame hval hfresh
        have c1 := (HR2.out.below hJ.below).row.cell 1; simp [boxA] at c1
        have z17 : a.eval (.tmp 17) = .pointer (some ⟨g, 0, none⟩) := hval 0 17 (hdep ⟨0, .data⟩ (by simp) rfl) rfl
        simp [Act.eval] at z17
        exact wp_val (.pointer (some ⟨g, 0, none⟩)) x (by simp [execOp, z17, go_sem, c1]) ⟨_, rfl, (fun c e => by cases e; rfl), hJ.pure 1 _ (by decide) (by decide)⟩
      · intro l u a x hJ hsz hjn hdep hsame hval hfresh
        have c1 := (HR2.out.below hJ.below).row.cell 1; simp [boxA] at c1
        have z18 : a.eval (.tmp 18) = .pointer (some ⟨g, 0, none⟩) := hval 1 18 (hdep ⟨1, .data⟩ (by simp) rfl) rfl
        simp [Act.eval] at z18
        exact wp_val (.pointer (some ⟨g, 1, none⟩)) x (by simp [execOp, z18, go_sem, c1]) ⟨_, rfl, (fun c e => by cases e; rfl), hJ.pure 2 _ (by decide) (by decide)⟩
      · intro l u a x hJ hsz hjn hdep hsame hval hfresh
        have c1 := (HR2.out.below hJ.below).row.cell 1; simp [boxA] at c1
        have z19 : a.eval (.tmp 19) = .pointer (some ⟨g, 1, none⟩) := hval 2 19 (hdep ⟨2, .data⟩ (by simp) rfl) rfl
        simp [Act.eval] at z19
        exact wp_val (.map (some b2)) x (by simp [execOp, z19, go_sem, c1]) ⟨_, rfl, (fun c e => by cases e; rfl), hJ.pure 3 _ (by decide) (by decide)⟩
      · intro l u a x hJ hsz hjn hdep hsame hval hfresh
        have c1 := (HR2.out.below hJ.below).row.cell 1; simp [boxA] at c1
        have z5 : a.eval (.tmp 5) = .pointer (some ⟨wr.heap.size, 0, none⟩) := hsame 5 (by decide)
        have hr := run_loadVar_row x wr.heap.size 80 80 #[.int .u16 s, .int .u16 n] (0, 0) _ (HT2.out.ext hJ.below) Try.underlying80 rfl (by kernel_rfl)
        exact wp_loadV 80 (.tmp 5) rfl _ (.agg #[.int .u16 s, .int .u16 n]) z5 (by simp only [Instr.loadAt, Instr.sureAddr, Sem.run_bind, Sem.run_pure, Result.andThen_ok, hr]) ⟨_, rfl, (fun c e => by cases e; rfl), hJ.pure 4 _ (by decide) (by decide)⟩
      · intro l u a x hJ hsz hjn hdep hsame hval hfresh
        have c1 := (HR2.out.below hJ.below).row.cell 1; simp [boxA] at c1
        have z20 : a.eval (.tmp 20) = .map (some b2) := hval 3 20 (hdep ⟨3, .data⟩ (by simp) rfl) rfl
        have z21 : a.eval (.tmp 21) = .agg #[.int .u16 s, .int .u16 n] := hval 4 21 (hdep ⟨4, .data⟩ (by simp) rfl) rfl
        simp [Act.eval] at z20 z21
        have hlk := (HR2.out.below hJ.below).look2 s n HS.out HU.out
        exact wp_val (.tuple #[.agg #[.int .u16 ys, yv], .bool th]) x (by simp [execOp, z20, z21, hlk, HLK.out, Result.andThen, go_sem]) ⟨_, rfl, (fun c e => by cases e; rfl), hJ.pure 5 _ (by decide) (by decide)⟩
      · intro l u a x hJ hsz hjn hdep hsame hval hfresh
        have c1 := (HR2.out.below hJ.below).row.cell 1; simp [boxA] at c1
        have z22 : a.eval (.tmp 22) = .tuple #[.agg #[.int .u16 ys, yv], .bool th] := hval 5 22 (hdep ⟨5, .data⟩ (by simp) rfl) rfl
        simp [Act.eval] at z22
        exact wp_val (.tuple #[.agg #[.int .u16 ys, yv], .bool th]) x (by simp [execOp, z22, go_sem, c1]) ⟨_, rfl, (fun c e => by cases e; rfl), hJ.pure 6 _ (by decide) (by decide)⟩
      · intro l u a x hJ hsz hjn hdep hsame hval hfresh
        have c1 := (HR2.out.below hJ.below).row.cell 1; simp [boxA] at c1
        have z16 : a.eval (.tmp 16) = .tuple #[.agg #[.int .u16 ys, yv], .bool th] := hval 6 16 (hdep ⟨6, .data⟩ (by simp) rfl) rfl
        simp [Act.eval] at z16
        exact wp_val (.agg #[.int .u16 ys, yv]) x (by simp [execOp, z16, go_sem, c1]) ⟨_, rfl, (fun c e => by cases e; rfl), hJ.pure 7 _ (by decide) (by decide)⟩
      · intro l u a x hJ hsz hjn hdep hsame hval hfresh
        have c1 := (HR2.out.below hJ.below).row.cell 1; simp [boxA] at c1
        have z16 : a.eval (.tmp 16) = .tuple #[.agg #[.int .u16 ys, yv], .bool th] := hval 6 16 (hdep ⟨6, .data⟩ (by simp) rfl) rfl
        simp [Act.eval] at z16
        exact wp_val (.bool th) x (by simp [execOp, z16, go_sem, c1]) ⟨_, rfl, (fun c e => by cases e; rfl), hJ.pure 8 _ (by decide) (by decide)⟩
      · intro l u a x hJ hsz hjn hdep hsame hval hfresh
        have c1 := (HR2.out.below hJ.below).row.cell 1; simp [boxA] at c1
        have hns : l.getD 10 false = false := by cases h : l.getD 10 false with | false => rfl | true => exact absurd (hJ.ord h) (by rw [MonoU.getD_false hjn]; decide)
        exact Bx.wp_allocN 32 rfl (#[.int .u16 0, .slice none 0 0]) (by kernel_rfl) (fun y hat hb => ⟨_, rfl, (fun c e => by cases e), hJ.stepA (by decide) (by rw [hsz]; decide) hns hb hat⟩)
      · intro l u a x hJ hsz hjn hdep hsame hval hfresh
        have c1 := (HR2.out.below hJ.below).row.cell 1; simp [boxA] at c1
        have z6 : a.eval (.tmp 6) = u 9 := hval 9 6 (hdep ⟨9, .data⟩ (by simp) rfl) rfl
        have z23 : a.eval (.tmp 23) = .agg #[.int .u16 ys, yv] := hval 7 23 (hdep ⟨7, .data⟩ (by simp) rfl) rfl
        have hla : l.getD 9 false = true := hdep ⟨9, .data⟩ (by simp) rfl
        obtain ⟨q, e, hq, hat⟩ := hJ.cell hla
        rw [MonoU.getD_false hjn, if_neg (by decide)] at hat
        rw [e] at z6
        exact Bx.wp_storeN 32 (.tmp 6) (.tmp 23) rfl rfl q 32 _ (#[.int .u16 ys, yv]) z6 (by rw [z23]) hat (by kernel_rfl) rfl (HYV.out) (fun y hat2 hg => ⟨undef, rfl, (fun c e => by cases e), hJ.stepS (by decide) (by rw [hsz]; decide) hla e hq hat2 hg⟩)
      · intro l u a x hJ hsz hjn hdep hsame hval hfresh
        have c1 := (HR2.out.below hJ.below).row.cell 1; simp [boxA] at c1
        have z24 : a.eval (.tmp 24) = .bool th := hval 8 24 (hdep ⟨8, .data⟩ (by simp) rfl) rfl
        simp [Act.eval] at z24
        exact wp_val (.bool th) x (by simp [execOp, z24, go_sem, c1]) ⟨_, rfl, (fun c e => by cases e; rfl), hJ.pure 11 _ (by decide) (by decide)⟩
    intro u3 w3 hJ3
    obtain ⟨q6, e6, hq6, hat6⟩ := hJ3.cell rfl
    rw [if_pos (by rfl)] at hat6
    have HJB := Lib.hid hJ3.below
    have HQ6 := Lib.hid hq6
    have HAT6 := Lib.hid hat6
    have c60 := hat6.cell 0
    have c61 := hat6.cell 1
    simp at c60 c61
    have HR3 := Lib.hid (HR2.out.below hJ3.below)
    have HO3 := Lib.hid (OwnG.below HO2.out hJ3.below)
    have HB3 := Lib.hid (HB2.out.trans ((ButX.ofBelow hJ3.below (X := fun _ => False)).mono (fun k e => e.elim)))
    clear hq6 hat6 hJ3
    simp [Act.put, MonoU.pick]
    rw [e6]
    clear e6
    rcases hcase with ⟨rfl, hnone, rfl⟩ | ⟨rfl, rfl, y, hy, rfl⟩
    · have HF2 := Lib.hid (HF.out.trans (ready_none hnone))
      clear hnone
      go_wp2_with fail
      go_ret
      unfold ReadyIs
      rw [show readyF (x.wait.length + 1) x.wait x.next s [] = (l, nx, out) from HF2.out]
      exact ⟨_, m2', rfl, HO3.out, HR3.out, HB3.out⟩
    · obtain ⟨py, cy, hyv, hrow⟩ := HR3.out.twoW (x := { x with wait := l, next := nx }) hy
      rw [HNN.out] at hyv
      rw [hyv] at c61 ⊢
      have HATM : Hid (At w3 q6 32 (rowG ⟨s, y.data⟩ (.slice py y.data.length cy)).toArray) := by
        show At _ _ _ _
        have := HAT6.out
        rw [hyv] at this
        exact this
      have HROW := Lib.hid (Row.mono hrow (Nat.zero_le Z))
      obtain ⟨pv, cv, hv, _, _⟩ := HO3.out.shape
      subst hv
      obtain ⟨on, hon⟩ : ∃ on, out.length = on := ⟨_, rfl⟩
      obtain ⟨yn, hyn⟩ : ∃ yn, y.data.length = yn := ⟨_, rfl⟩
      have HYN := Lib.hid hyn
      rw [hon] at HO3 ⊢
      rw [hyn] at c61 HATM HROW hyv ⊢
      have HON := Lib.hid hon
      have HSZ : Hid (W0.heap.size ≤ wr.heap.size ∧ wr.heap.size ≤ w2.heap.size ∧ w2.heap.size ≤ w3.heap.size) := ⟨HBS.out, HG2.out.size, HJB.out.size⟩
      clear hyv hrow hon hyn HAT6
      have HY := Lib.hid hy
      clear hy
      go_upto_region 6 with (first
        | ((with_reducible refine wpl_pushG 30 (.tmp 29) (.tmp 28) rfl rfl rfl rfl rfl rfl ⟨s, y.data⟩ (.slice py yn cy) ?_ W0.heap.size (.slice pv on cv) out ?_ ?_ HO3.out HROW.out ?_ ?_ ?_); rfl; (intro u; rfl); (intro u; rfl); (have := HSZ.out; omega); (have := HON.out; have := HL.out; have := HLEN.out; omega); go_must (intro v4 w4 hq4 hg4; have HG4 := Lib.hid hg4; have HQ4 := Lib.hid hq4; clear hq4 hg4)))
      have hR4 := HR3.out.grownO HG4.out HO3.out.choose_spec.2.1 (by decide) (by decide)
      have hT4 : At w4 wr.heap.size 80 #[.int .u16 s, .int .u16 n] := (HT2.out.ext HJB.out).kept' HG4.out (own_ne HO3.out.choose_spec.2.1 (HT2.out.ext HJB.out) (by decide))
      have HB4 := Lib.hid (butX_grown HB3.out HG4.out (fun q e => .inr (HO3.out.lt q e).1))
      have d0 := hT4.cell 0
      have d1 := hT4.cell 1
      have p1 := hR4.row.cell 1
      simp [boxA] at d0 d1 p1
      go_still_tail 5, (by kernel_rfl)
      change wpList _ _ _ _ _ w4.drew
      have hbd : Below w4.heap.size w4 w4.drew := (Below.refl _ _).drew
      have hR5 := hR4.below hbd
      have hQ5 := OwnG.below HQ4.out hbd
      have hB5 := HB4.out.trans ((ButX.ofBelow hbd (X := fun _ => False)).mono (fun k e => e.elim))
      have hS5 := hbd.size
      generalize w4.drew = w5 at hR5 hQ5 hB5 hS5 ⊢
      have hyy : getW l (s : Int) n = some y := by rw [← HNN.out]; exact HY.out
      obtain ⟨w6, hrun6, hR6, hg6⟩ := hR5.dropW s n HS.out HU.out hyy 0
      have hQ6 := hQ5.map hg6 hR5.map2.isMap
      have hB6 := butX_grown hB5 hg6 (fun q e => .inl (.inr (.inr (Option.some.inj e).symm)))
      have HRUN6 := Lib.hid hrun6
      have HR6 := Lib.hid hR6
      have HQ6 := Lib.hid hQ6
      have HB6 := Lib.hid hB6
      clear hbd hR4 hT4 d0 d1 p1 hR5 hQ5 hB5 hS5 hrun6 hg6 hR6 hQ6 hB6 c60 c61
      have p2 := HR6.out.row.cell (2 + s)
      rw [boxA_get _ _ _ _ hs] at p2
      have p2' : w6.cell? ⟨g, 2 + s, none⟩ = some (.int .u16 n) := by rw [← HNN.out]; exact p2
      clear p2
      go_upto_region 7 with ((with_reducible refine wpl_deleteR rfl (.tmp 35) (.tmp 36) 73 80 rfl b2 (.agg #[.int .u16 s, .int .u16 n]) w6 ?_ ?_ HRUN6.out ?_); rfl; rfl)
      go_still_tail 10, (by kernel_rfl)
      change wpList _ _ _ _ _ w6.drew
      have hbd : Below w6.heap.size w6 w6.drew := (Below.refl _ _).drew
      have HR7 := Lib.hid (HR6.out.below hbd)
      have HQ7 := Lib.hid (OwnG.below HQ6.out hbd)
      have HB7 := Lib.hid (HB6.out.trans ((ButX.ofBelow hbd (X := fun _ => False)).mono (fun k e => e.elim)))
      generalize w6.drew = w7 at HR7 HQ7 HB7 ⊢
      clear hbd p2'
      go_wp2_with ((with_reducible refine wpl_storeC rfl 26 (.tmp 46) (.tmp 43) rfl rfl g (2 + s) 75 (boxA b1 b2 nx) (boxA b1 b2 (Chunk.upd nx s (nx16 n))) (.int .u16 (nx16 n)) ?_ ?_ HR7.out.row ?_ (by kernel_rfl) ?_ ?_ ?_); rfl; rfl; exact (show 2 + s < 10 by omega); rfl; exact boxA_set b1 b2 nx s hs _; go_must (intro w8 hat8 hg8; have HR8 := Lib.hid (HR7.out.setNext s (nx16 n) (u16_wrap _) hat8 hg8); have HQ8 := Lib.hid (HQ7.out.grownT hg8 HR7.out.row (fun e => own_ne HQ7.out.choose_spec.2.1 HR7.out.row (by decide) e) (by decide)); have HB8 := Lib.hid (butX_grown HB7.out hg8 (fun q e => .inl (.inl (Option.some.inj e).symm))); clear hat8 hg8))
      have hyy := HY.out
      have hok := HR2.out.ok.2.1.1
      have hl1 : (rmW l s (nx s)).length + 1 = l.length := rmW_length hok hyy
      have hl2 : out.length + l.length = x.wait.length := HL.out
      have hf := HF.out.trans (ready_some hok hyy)
      rw [HNN.out] at hl1 hf
      refine ⟨⟨rmW l s n, Chunk.upd nx s (nx16 n), out ++ [(⟨(s : Int), y.data⟩ : G)], _, HR8.out, HQ8.out, HB8.out, ?_, hf⟩, ?_⟩
      · show _ = _
        rw [List.length_append, List.length_singleton]; omega
      · obtain ⟨p4, c4, hv4, _, _⟩ := HQ8.out.shape
        rw [hv4]
        simp only [lenV, List.length_append, List.length_singleton]
        omega
end Go.Proofs.Yteiiifonejkjbaa.Bx
