/-
  Contracts: IsInf, both Means.
-/
import Derived.Test.YtljinegonoomcaaReal2
import Derived.Test.YtljinegonoomcaaMeanP
import Derived.Laws.FloatArith
import Derived.Deep.DeepMust
import Derived.Deep.Cut
import Derived.Sort.AtCall
namespace Go.Proofs.Ytljinegonoomcaa.Real
open Go.RowKit Mem Round
set_option linter.unusedVariables false
set_option linter.unusedSimpArgs false

/-- What an operation on floating-point values answers: the nearest, or what is no number. -/
def Got (o : Option Nat) (r : Nat) : Prop := r < 18446744073709551616 ∧ match o with
  | some b => r = b
  | none => nanB r = true
theorem nan_cut (t : Nat) : nanB ((t % 2) * 2 ^ 63 + 0x7ff0000000000000 + 1 + (t / 2) % (2 ^ 52 - 1)) = true ∧ (t % 2) * 2 ^ 63 + 0x7ff0000000000000 + 1 + (t / 2) % (2 ^ 52 - 1) < 18446744073709551616 := by
  unfold nanB
  rw [decide_eq_true_eq]
  have h1 : t % 2 < 2 := Nat.mod_lt _ (by decide)
  have h2 : (t / 2) % (2 ^ 52 - 1) < 2 ^ 52 - 1 := Nat.mod_lt _ (by decide)
  generalize t % 2 = a at h1
  generalize (t / 2) % (2 ^ 52 - 1) = b at h2
  omega
theorem run_arith (op : BinOp) (o : Option Nat) (x y : Nat) (w : World) (hop : (op = .add ∧ Ieee.double.add x y = o) ∨ (op = .quo ∧ Ieee.double.div x y = o)) :
    ∃ r w', (binOp op 23 (.float .f64 x) (.float .f64 y)).run Try.prog w = .ok (.float .f64 r) w' ∧ Got o r ∧ Below w.heap.size w w' := by
  cases o with
  | some b =>
    have hf : floatBits op .f64 x y = some b := by rcases hop with ⟨rfl, h⟩ | ⟨rfl, h⟩ <;> exact h
    refine ⟨b, w, run_float_arith w op 23 .f64 x y b hf, ⟨?_, rfl⟩, Below.refl _ _⟩
    have := floatBits_wf hf
    simpa [Lit.wf] using this
  | none =>
    have hn := nan_cut (w.tape w.drawn (.nanBits .f64 x y))
    refine ⟨_, w.drew, ?_, ⟨hn.2, hn.1⟩, (Below.refl _ _).drew⟩
    rcases hop with ⟨rfl, h⟩ | ⟨rfl, h⟩
    · have h' : FloatKind.f64.format.add x y = none := h
      simp [binOp, Op.floatArith, h', Question.forced, Question.cut]
    · have h' : FloatKind.f64.format.div x y = none := h
      simp [binOp, Op.floatArith, h', Question.forced, Question.cut]
section
variable {w : World} {ops : Array Oper} {rest : List Oper} {o : Oper} {a : Act} {Q : Exit → Act → World → Prop}
theorem wpl_add (hgd : o.guard = none) (xo yo : Operand) (ho : o.op = .binOp .add 23 xo yo 23) (x y : Nat) (hx : a.eval xo = .float .f64 x) (hy : a.eval yo = .float .f64 y)
    (h : ∀ r w', Got (Ieee.double.add x y) r → Below w.heap.size w w' → wpList Try.prog ops Q rest (a.put o.dst (.float .f64 r)) w') : wpList Try.prog ops Q (o :: rest) a w := by
  obtain ⟨r, w', h1, h2, h3⟩ := run_arith .add _ x y w (.inl ⟨rfl, rfl⟩)
  refine wpList_plain hgd fun K hK => ?_
  have hg : (eqGuard .add 23 xo yo (.float .f64 x) (.float .f64 y)).run Try.prog w = .ok () w := by simp [eqGuard]
  unfold Oper.wp execOp
  simp only [ho, hx, hy, Sem.run_bind, hg, h1, Result.andThen_ok, Sem.run_pure]
  exact hK _ _ (h r w' h2 h3)
theorem wpl_half (hgd : o.guard = none) (xo : Operand) (ho : o.op = .binOp .quo 23 xo (.const (.float .f64 4611686018427387904)) 23) (x : Nat) (hx : a.eval xo = .float .f64 x)
    (h : ∀ r w', Got (Ieee.double.div x two) r → Below w.heap.size w w' → wpList Try.prog ops Q rest (a.put o.dst (.float .f64 r)) w') : wpList Try.prog ops Q (o :: rest) a w := by
  obtain ⟨r, w', h1, h2, h3⟩ := run_arith .quo _ x two w (.inr ⟨rfl, rfl⟩)
  refine wpList_plain hgd fun K hK => ?_
  unfold Oper.wp execOp
  have hy : a.eval (.const (.float .f64 4611686018427387904)) = .float .f64 two := rfl
  have hg : (eqGuard .quo 23 xo (.const (.float .f64 4611686018427387904)) (.float .f64 x) (.float .f64 two)).run Try.prog w = .ok () w := by simp [eqGuard]
  simp only [ho, hx, hy, Sem.run_bind, hg, h1, Result.andThen_ok, Sem.run_pure]
  exact hK _ _ (h r w' h2 h3)
end
def maxF : Nat := 9218868437227405311
theorem order_max (x : Nat) (h : x < 9223372036854775808) : (FloatKind.f64.format.order x maxF == some .gt) = decide (x = inf) := by
  show (Ieee.double.order x maxF == some .gt) = _
  have hr : rung x = x := Nat.mod_eq_of_lt h
  have hn : neg x = false := by unfold neg; rw [Nat.div_eq_of_lt h]; rfl
  have fm : fin maxF := by unfold fin rung maxF inf; decide
  rcases Nat.lt_trichotomy x inf with g | g | g
  · have fx : fin x := by unfold fin; rw [hr]; exact g
    rw [order_fin x maxF fx fm, decide_eq_false (by omega)]
    have h1 : val x ≤ val maxF := by
      unfold val
      rw [hn, show neg maxF = false from by decide, hr, show rung maxF = maxF from by decide]
      have := V_mono (show x ≤ maxF by unfold maxF; unfold inf at g; omega)
      simp
      omega
    rcases Int.lt_or_eq_of_le h1 with h2 | h2
    · simp [Ord.compare, compareOfLessAndEq, h2]
    · simp [Ord.compare, compareOfLessAndEq, h2]
  · subst g
    decide
  · rw [decide_eq_false (by omega)]
    have hnan : nanB x = true := by unfold nanB; rw [decide_eq_true_eq]; unfold inf at g; omega
    have e : (Ieee.double.read x).isNaN = true := by
      rw [isNaN_read Ieee.double x (by decide)]
      rw [decide_eq_true_eq]
      show inf < x % 9223372036854775808
      omega
    unfold Ieee.Format.order
    cases hd : Ieee.double.read x with
    | number s m i => rw [hd] at e; cases e
    | infinity s => rw [hd] at e; cases e
    | nan s f => simp [Ieee.Datum.order]
set_option maxRecDepth 100000 in
theorem isInf (x : Nat) (b : Bool) (w : World) (hx : x < 18446744073709551616) (hb : decide (rung x = inf) = b) : Calls Try.prog 30 #[.float .f64 x, .int .i64 0] w fun e w' => e = .returned (.bool b) ∧ w' = w := by
  have kb := bits64
  have kf := frombits64
  obtain ⟨r, hr⟩ : ∃ r, rung x = r := ⟨_, rfl⟩
  have hrl : r < 9223372036854775808 := by rw [← hr]; exact Nat.mod_lt _ (by decide)
  have ho := order_max r hrl
  rw [hr] at hb
  rw [hb] at ho
  have hand : bits BinOp.andNot IntKind.u64 (x : Int) 9223372036854775808 = (r : Int) := by
    have := u64_andNot_nat x 9223372036854775808 hx (by decide)
    rw [show ((9223372036854775808 : Nat) : Int) = 9223372036854775808 from rfl] at this
    rw [this, show 18446744073709551615 - 9223372036854775808 = 2 ^ 63 - 1 from rfl, Nat.and_two_pow_sub_one_eq_mod, ← hr]
    rfl
  clear hb hr hrl hx
  have PA := Lib.hid (show Calls Try.prog 35 #[.float .f64 x] w fun e w' => e = .returned (.float .f64 r) ∧ w' = w by
    go_enter Try.func35, Try.ntmps35
    go_wp2_with fail
    go_ret
    exact ⟨rfl, rfl⟩)
  unfold maxF at ho
  go_enter Try.func30, Try.ntmps30
  go_wp2_with (go_at_call 35; go_must (refine PA.out.mono ?_; rintro e w1 ⟨rfl, rfl⟩))
  go_ret
  exact ⟨rfl, rfl⟩
theorem nan_read {x : Nat} (h : nanB x = true) : ∃ s f, Ieee.double.read x = .nan s f := by
  have e : (Ieee.double.read x).isNaN = true := by
    rw [isNaN_read Ieee.double x (by decide)]
    unfold nanB at h
    exact h
  cases hd : Ieee.double.read x with
  | number s m i => rw [hd] at e; cases e
  | infinity s => rw [hd] at e; cases e
  | nan s f => exact ⟨s, f, rfl⟩
theorem div_nan {x : Nat} (h : nanB x = true) : Ieee.double.div x two = none := by
  obtain ⟨s, f, e⟩ := nan_read h
  unfold Ieee.Format.div
  rw [e]
  rfl
theorem add_some {x y s : Nat} (h : Ieee.double.add x y = some s) : nanB x = false ∧ nanB y = false := by
  constructor
  · cases hn : nanB x with
    | false => rfl
    | true =>
      obtain ⟨t, f, e⟩ := nan_read hn
      unfold Ieee.Format.add at h
      rw [e] at h
      cases h
  · cases hn : nanB y with
    | false => rfl
    | true =>
      rw [add_comm] at h
      obtain ⟨t, f, e⟩ := nan_read hn
      unfold Ieee.Format.add at h
      rw [e] at h
      cases h
theorem fin_of {x : Nat} (h : nanB x = false) (h1 : rung x ≠ inf) : fin x := by
  unfold nanB at h
  rw [decide_eq_false_iff_not] at h
  unfold fin rung inf at *
  omega
theorem got_far {x y s p q r : Nat} (hs : Got (Ieee.double.add x y) s) (h1 : rung s = inf) (h2 : rung x ≠ inf) (h3 : rung y ≠ inf) (hp : Got (Ieee.double.div x two) p) (hq : Got (Ieee.double.div y two) q) (hr : Got (Ieee.double.add p q) r) : Got (mean x y) r := by
  have hn : nanB s = false := by
    unfold nanB
    rw [decide_eq_false_iff_not]
    have : s % 9223372036854775808 = inf := h1
    unfold inf at this
    omega
  unfold mean
  cases hA : Ieee.double.add x y with
  | none =>
    rw [hA] at hs
    have e : nanB s = true := hs.2
    rw [hn] at e
    cases e
  | some s0 =>
    rw [hA] at hs
    obtain rfl : s = s0 := hs.2
    obtain ⟨nx, ny⟩ := add_some hA
    obtain ⟨_, ep, _⟩ := half_fin x (fin_of nx h2)
    obtain ⟨_, eq, _⟩ := half_fin y (fin_of ny h3)
    rw [ep] at hp
    rw [eq] at hq
    obtain rfl := hp.2
    obtain rfl := hq.2
    rw [Option.bind_some, if_pos ⟨h1, h2, h3⟩, ep, Option.bind_some, eq, Option.bind_some]
    exact hr
theorem got_near {x y s r : Nat} (hs : Got (Ieee.double.add x y) s) (h : ¬ (rung s = inf ∧ rung x ≠ inf ∧ rung y ≠ inf)) (hr : Got (Ieee.double.div s two) r) : Got (mean x y) r := by
  unfold mean
  cases hA : Ieee.double.add x y with
  | none =>
    rw [hA] at hs
    rw [div_nan hs.2] at hr
    exact hr
  | some s0 =>
    rw [hA] at hs
    obtain rfl : s = s0 := hs.2
    rw [Option.bind_some, if_neg h]
    exact hr
def MeanIs (w : World) (x y : Nat) (e : Ending) (w' : World) : Prop := ∃ m, e = .returned (.float .f64 m) ∧ Got (mean x y) m ∧ Below w.heap.size w w'
set_option maxRecDepth 100000 in
theorem mean18 (x y : Nat) (w : World) (hx : x < 18446744073709551616) (hy : y < 18446744073709551616) : Calls Try.prog 18 #[.float .f64 x, .float .f64 y] w (MeanIs w x y) := by
  have PX := Lib.hid (fun b hb u => isInf x b u hx hb)
  have PY := Lib.hid (fun b hb u => isInf y b u hy hb)
  clear hx hy
  go_enter Try.func18, Try.ntmps18
  go_upto_region 2 with (refine wpl_add rfl (.tmp 8) (.tmp 9) rfl x y rfl rfl ?_; go_must (intro s w1 hs hb1))
  have HS := Lib.hid hs
  have PS := Lib.hid (fun b hb u => isInf s b u hs.1 hb)
  clear hs
  by_cases h1 : rung s = inf
  · have P1 := Lib.hid (PS.out true (decide_eq_true h1))
    by_cases h2 : rung x = inf
    · have P2 := Lib.hid (PX.out true (decide_eq_true h2))
      have HN := Lib.hid (show ¬ (rung s = inf ∧ rung x ≠ inf ∧ rung y ≠ inf) from fun h => h.2.1 h2)
      clear h1 h2
      go_wp2_with (first
        | (go_at_call_has 30 (Value.float FloatKind.f64 s); go_must (refine (P1.out _).mono ?_; rintro e u ⟨rfl, rfl⟩))
        | (go_at_call_has 30 (Value.float FloatKind.f64 x); go_must (refine (P2.out _).mono ?_; rintro e u ⟨rfl, rfl⟩))
        | (refine wpl_half rfl (.tmp 30) rfl s rfl ?_; go_must (intro r w2 hr hb2; have HR := Lib.hid hr; have hbl := hb1.trans (hb2.mono hb1.size); clear hr)))
      go_ret
      exact ⟨r, rfl, got_near HS.out HN.out HR.out, hbl⟩
    · have P2 := Lib.hid (PX.out false (decide_eq_false h2))
      by_cases h3 : rung y = inf
      · have P3 := Lib.hid (PY.out true (decide_eq_true h3))
        have HN := Lib.hid (show ¬ (rung s = inf ∧ rung x ≠ inf ∧ rung y ≠ inf) from fun h => h.2.2 h3)
        clear h1 h2 h3
        go_wp2_with (first
          | (go_at_call_has 30 (Value.float FloatKind.f64 s); go_must (refine (P1.out _).mono ?_; rintro e u ⟨rfl, rfl⟩))
          | (go_at_call_has 30 (Value.float FloatKind.f64 x); go_must (refine (P2.out _).mono ?_; rintro e u ⟨rfl, rfl⟩))
          | (go_at_call_has 30 (Value.float FloatKind.f64 y); go_must (refine (P3.out _).mono ?_; rintro e u ⟨rfl, rfl⟩))
          | (refine wpl_half rfl (.tmp 30) rfl s rfl ?_; go_must (intro r w2 hr hb2; have HR := Lib.hid hr; have hbl := hb1.trans (hb2.mono hb1.size); clear hr)))
        go_ret
        exact ⟨r, rfl, got_near HS.out HN.out HR.out, hbl⟩
      · have P3 := Lib.hid (PY.out false (decide_eq_false h3))
        have HF := Lib.hid (And.intro h1 (And.intro h2 h3))
        clear h1 h2 h3
        go_wp2_with (first
          | (go_at_call_has 30 (Value.float FloatKind.f64 s); go_must (refine (P1.out _).mono ?_; rintro e u ⟨rfl, rfl⟩))
          | (go_at_call_has 30 (Value.float FloatKind.f64 x); go_must (refine (P2.out _).mono ?_; rintro e u ⟨rfl, rfl⟩))
          | (go_at_call_has 30 (Value.float FloatKind.f64 y); go_must (refine (P3.out _).mono ?_; rintro e u ⟨rfl, rfl⟩))
          | (refine wpl_half rfl (.tmp 23) rfl x rfl ?_; go_must (intro p0 w2 hp hb2; have HP := Lib.hid hp; have hbl2 := hb1.trans (hb2.mono hb1.size); clear hp))
          | (refine wpl_half rfl (.tmp 25) rfl y rfl ?_; go_must (intro q0 w3 hq hb3; have HQ := Lib.hid hq; have hbl3 := hbl2.trans (hb3.mono hbl2.size); clear hq))
          | (refine wpl_add rfl (.tmp 27) (.tmp 28) rfl p0 q0 rfl rfl ?_; go_must (intro r w4 hr hb4; have HR := Lib.hid hr; have hbl4 := hbl3.trans (hb4.mono hbl3.size); clear hr)))
        go_ret
        exact ⟨r, rfl, got_far HS.out HF.out.1 HF.out.2.1 HF.out.2.2 HP.out HQ.out HR.out, hbl4⟩
  · have P1 := Lib.hid (PS.out false (decide_eq_false h1))
    have HN := Lib.hid (show ¬ (rung s = inf ∧ rung x ≠ inf ∧ rung y ≠ inf) from fun h => h1 h.1)
    clear h1
    go_wp2_with (first
      | (go_at_call_has 30 (Value.float FloatKind.f64 s); go_must (refine (P1.out _).mono ?_; rintro e u ⟨rfl, rfl⟩))
      | (refine wpl_half rfl (.tmp 30) rfl s rfl ?_; go_must (intro r w2 hr hb2; have HR := Lib.hid hr; have hbl := hb1.trans (hb2.mono hb1.size); clear hr)))
    go_ret
    exact ⟨r, rfl, got_near HS.out HN.out HR.out, hbl⟩
set_option maxRecDepth 100000 in
theorem mean19 (x y : Nat) (w : World) (hx : x < 18446744073709551616) (hy : y < 18446744073709551616) : Calls Try.prog 19 #[.float .f64 x, .float .f64 y] w (MeanIs w x y) := by
  have kb := bits64
  have ax := and63 x hx
  have ay := and63 y hy
  rw [show x % 9223372036854775808 = rung x from rfl] at ax
  rw [show y % 9223372036854775808 = rung y from rfl] at ay
  clear hx hy
  go_enter Try.func19, Try.ntmps19
  go_upto_region 2 with (refine wpl_add rfl (.tmp 12) (.tmp 13) rfl x y rfl rfl ?_; go_must (intro s w1 hs hb1))
  have HS := Lib.hid hs
  have as_ := and63 s hs.1
  rw [show s % 9223372036854775808 = rung s from rfl] at as_
  clear hs
  have key : ∀ z : Nat, rung z = inf → ((rung z : Int) == 9218868437227405312) = true := fun z h => by rw [h]; rfl
  have key2 : ∀ z : Nat, rung z = inf → ((rung z : Int) != 9218868437227405312) = false := fun z h => by rw [h]; rfl
  have kno : ∀ z : Nat, rung z ≠ inf → ((rung z : Int) == 9218868437227405312) = false := fun z h => by unfold inf at h; simp; omega
  have kno2 : ∀ z : Nat, rung z ≠ inf → ((rung z : Int) != 9218868437227405312) = true := fun z h => by unfold inf at h; simp; omega
  have KY := Lib.hid key
  have KY2 := Lib.hid key2
  have KN := Lib.hid kno
  have KN2 := Lib.hid kno2
  clear key key2 kno kno2
  by_cases h1 : rung s = inf
  · have b1 := KY.out s h1
    by_cases h2 : rung x = inf
    · have b2 := KY2.out x h2
      have HN := Lib.hid (show ¬ (rung s = inf ∧ rung x ≠ inf ∧ rung y ≠ inf) from fun h => h.2.1 h2)
      clear h1 h2
      go_wp2_with (refine wpl_half rfl (.tmp 44) rfl s rfl ?_; go_must (intro r w2 hr hb2; have HR := Lib.hid hr; have hbl := hb1.trans (hb2.mono hb1.size); clear hr))
      go_ret
      exact ⟨r, rfl, got_near HS.out HN.out HR.out, hbl⟩
    · have b2 := KN2.out x h2
      by_cases h3 : rung y = inf
      · have b3 := KY2.out y h3
        have HN := Lib.hid (show ¬ (rung s = inf ∧ rung x ≠ inf ∧ rung y ≠ inf) from fun h => h.2.2 h3)
        clear h1 h2 h3
        go_wp2_with (refine wpl_half rfl (.tmp 44) rfl s rfl ?_; go_must (intro r w2 hr hb2; have HR := Lib.hid hr; have hbl := hb1.trans (hb2.mono hb1.size); clear hr))
        go_ret
        exact ⟨r, rfl, got_near HS.out HN.out HR.out, hbl⟩
      · have b3 := KN2.out y h3
        have HF := Lib.hid (And.intro h1 (And.intro h2 h3))
        clear h1 h2 h3
        go_wp2_with (first
          | (refine wpl_half rfl (.tmp 37) rfl x rfl ?_; go_must (intro p0 w2 hp hb2; have HP := Lib.hid hp; have hbl2 := hb1.trans (hb2.mono hb1.size); clear hp))
          | (refine wpl_half rfl (.tmp 39) rfl y rfl ?_; go_must (intro q0 w3 hq hb3; have HQ := Lib.hid hq; have hbl3 := hbl2.trans (hb3.mono hbl2.size); clear hq))
          | (refine wpl_add rfl (.tmp 41) (.tmp 42) rfl p0 q0 rfl rfl ?_; go_must (intro r w4 hr hb4; have HR := Lib.hid hr; have hbl4 := hbl3.trans (hb4.mono hbl3.size); clear hr)))
        go_ret
        exact ⟨r, rfl, got_far HS.out HF.out.1 HF.out.2.1 HF.out.2.2 HP.out HQ.out HR.out, hbl4⟩
  · have b1 := KN.out s h1
    have HN := Lib.hid (show ¬ (rung s = inf ∧ rung x ≠ inf ∧ rung y ≠ inf) from fun h => h1 h.1)
    clear h1
    go_wp2_with (refine wpl_half rfl (.tmp 44) rfl s rfl ?_; go_must (intro r w2 hr hb2; have HR := Lib.hid hr; have hbl := hb1.trans (hb2.mono hb1.size); clear hr))
    go_ret
    exact ⟨r, rfl, got_near HS.out HN.out HR.out, hbl⟩
end Go.Proofs.Ytljinegonoomcaa.Real
