/-
  Two peers and what comes to each (plain); how they lie in memory. No walk.
-/
import Derived.Test.YtamemmbcdkhdhaaElect0
namespace Go.Proofs.Ytamemmbcdkhdhaa.Peer
open Go.RowKit Mem Cells Ops
set_option linter.unusedVariables false
set_option linter.unusedSimpArgs false

/-- The states; what comes to each side, of its own call (0, 1) and of the other one's (2, 3). -/
structure Q where
  s0 : Int
  s1 : Int
  x0 : List Int
  x1 : List Int
  x2 : List Int
  x3 : List Int
def Q.st (q : Q) (s : Nat) : Int := if s = 0 then q.s0 else q.s1
def Q.x (q : Q) (j : Nat) : List Int := if j = 0 then q.x0 else if j = 1 then q.x1 else if j = 2 then q.x2 else q.x3
def Q.setSt (q : Q) (s : Nat) (n : Int) : Q := if s = 0 then { q with s0 := n } else { q with s1 := n }
def Q.setX (q : Q) (j : Nat) (l : List Int) : Q := if j = 0 then { q with x0 := l } else if j = 1 then { q with x1 := l } else if j = 2 then { q with x2 := l } else { q with x3 := l }
def Q.push (q : Q) (j : Nat) (n : Int) : Q := q.setX j (q.x j ++ [n])
def winOf (w0 : Bool) (s : Nat) : Bool := if s = 0 then w0 else !w0
def doOne (s : Nat) (q : Q) (d : Int) : Q :=
  if d = 2 then q.push (2 + (1 - s)) 2 else if d = 4 then q.push (1 - s) 6 else if d = 6 then q.push (2 + (1 - s)) 8 else if d = 7 then q.push (1 - s) 7 else q
def stepQ (w0 : Bool) (q : Q) (s : Nat) (ev : Int) : Q := (doF (q.st s) ev (winOf w0 s)).foldl (doOne s) (q.setSt s (nextF (q.st s) ev (winOf w0 s)))
def emptyQ (q : Q) : Bool := q.x0.isEmpty && q.x1.isEmpty && q.x2.isEmpty && q.x3.isEmpty
def finalQ (w0 : Bool) (q : Q) : Bool := if w0 then decide (q.s0 = 6 ∧ q.s1 = 5) else decide (q.s1 = 6 ∧ q.s0 = 5)
def shortQ (q : Q) : Bool := decide (q.x0.length ≤ 90) && decide (q.x1.length ≤ 90) && decide (q.x2.length ≤ 90) && decide (q.x3.length ≤ 90)
/-- One move: the first of queue j. -/
def moveQ (w0 : Bool) (q : Q) (j : Nat) : Option (Q × Int) := match q.x j with | [] => none | e :: l => some (q.setX j l, e)
/-- From here, in whichever order, the end is good, within n moves. -/
def good (w0 : Bool) : Nat → Q → Bool
  | 0, q => emptyQ q && finalQ w0 q && shortQ q
  | n + 1, q => shortQ q && (!emptyQ q || finalQ w0 q) && [0, 1, 2, 3].all fun j => match moveQ w0 q j with | none => true | some (q', e) => decide (errF (q'.st (j % 2)) e = 0) && good w0 n (stepQ w0 q' (j % 2) e)
def startQ : Q := ⟨0, 0, [], [], [], []⟩
def q1 (w0 : Bool) : Q := stepQ w0 startQ 0 1
def q2 (w0 : Bool) : Q := stepQ w0 (q1 w0) 1 1
def q3 (w0 : Bool) : Q := stepQ w0 (q2 w0) 0 3
def q4 (w0 : Bool) : Q := stepQ w0 (q3 w0) 1 3
theorem good4 : ∀ w0 ∈ [true, false], good w0 6 (q4 w0) = true := by decide +kernel
theorem errs4 : ∀ w0 ∈ [true, false], errF (startQ.st 0) 1 = 0 ∧ errF ((q1 w0).st 1) 1 = 0 ∧ errF ((q2 w0).st 0) 3 = 0 ∧ errF ((q3 w0).st 1) 3 = 0 ∧ shortQ startQ = true ∧ shortQ (q1 w0) = true ∧ shortQ (q2 w0) = true ∧ shortQ (q3 w0) = true := by decide +kernel
theorem shortQ_iff {q : Q} (h : shortQ q = true) (j : Nat) : (q.x j).length ≤ 90 := by
  unfold shortQ at h
  simp only [Bool.and_eq_true, decide_eq_true_eq] at h
  unfold Q.x
  split
  · exact h.1.1.1
  · split
    · exact h.1.1.2
    · split
      · exact h.1.2
      · exact h.2
theorem good_short {w0 : Bool} {n : Nat} {q : Q} (h : good w0 n q = true) : shortQ q = true := by
  cases n <;> simp only [good, Bool.and_eq_true] at h
  · exact h.2
  · exact h.1.1
theorem good_end {w0 : Bool} {n : Nat} {q : Q} (h : good w0 n q = true) (he : ∀ j, j < 4 → q.x j = []) : finalQ w0 q = true := by
  have e : emptyQ q = true := by
    have h0 := he 0 (by omega)
    have h1 := he 1 (by omega)
    have h2 := he 2 (by omega)
    have h3 := he 3 (by omega)
    simp [Q.x] at h0 h1 h2 h3
    simp [emptyQ, h0, h1, h2, h3]
  cases n <;> simp only [good, Bool.and_eq_true] at h
  · exact h.1.2
  · have := h.1.2
    rw [e] at this
    simpa using this
theorem good_move {w0 : Bool} {n : Nat} {q : Q} (h : good w0 n q = true) (j : Nat) (hj : j < 4) (e : Int) (l : List Int) (hx : q.x j = e :: l) : ∃ m, n = m + 1 ∧ errF ((q.setX j l).st (j % 2)) e = 0 ∧ good w0 m (stepQ w0 (q.setX j l) (j % 2) e) = true := by
  cases n with
  | zero =>
    exfalso
    simp only [good, emptyQ, Bool.and_eq_true, List.isEmpty_iff] at h
    obtain ⟨⟨⟨⟨⟨h0, h1⟩, h2⟩, h3⟩, _⟩, _⟩ := h
    unfold Q.x at hx
    split at hx
    · rw [h0] at hx; cases hx
    · split at hx
      · rw [h1] at hx; cases hx
      · split at hx
        · rw [h2] at hx; cases hx
        · rw [h3] at hx; cases hx
  | succ m =>
    simp only [good, Bool.and_eq_true, List.all_eq_true] at h
    have hm : j ∈ [0, 1, 2, 3] := by simp; omega
    have h1 := h.2 j hm
    unfold moveQ at h1
    rw [hx] at h1
    simp only [Bool.and_eq_true, decide_eq_true_eq] at h1
    exact ⟨m, rfl, h1.1, h1.2⟩
theorem st_setX (q : Q) (j : Nat) (l : List Int) (s : Nat) : (q.setX j l).st s = q.st s := by unfold Q.setX Q.st; split <;> (try split) <;> (try split) <;> (try split) <;> rfl
theorem x_setX (q : Q) (j i : Nat) (l : List Int) (hj : j < 4) (hi : i < 4) : (q.setX j l).x i = if i = j then l else q.x i := by
  unfold Q.setX Q.x
  match j, hj, i, hi with
  | 0, _, 0, _ => rfl
  | 0, _, 1, _ => rfl
  | 0, _, 2, _ => rfl
  | 0, _, 3, _ => rfl
  | 1, _, 0, _ => rfl
  | 1, _, 1, _ => rfl
  | 1, _, 2, _ => rfl
  | 1, _, 3, _ => rfl
  | 2, _, 0, _ => rfl
  | 2, _, 1, _ => rfl
  | 2, _, 2, _ => rfl
  | 2, _, 3, _ => rfl
  | 3, _, 0, _ => rfl
  | 3, _, 1, _ => rfl
  | 3, _, 2, _ => rfl
  | 3, _, 3, _ => rfl
theorem x_setSt (q : Q) (s : Nat) (n : Int) (i : Nat) : (q.setSt s n).x i = q.x i := by unfold Q.setSt; split <;> rfl

/-! In memory. -/
structure PW (B : Nat) (w : World) (gs gn gt gm : Nat) (a b : ByteArray) (q : Q) (v : Nat → Value) : Prop where
  st : At w gs 33 #[.int .i64 q.s0, .int .i64 q.s1]
  nm : At w gn 32 #[.string a, .string b]
  mi : At w gm 34 #[v 0, v 1]
  th : At w gt 34 #[v 2, v 3]
  own : ∀ j, j < 4 → OwnQ B w (v j) (q.x j)
  apart : ∀ i j, i < 4 → j < 4 → i ≠ j → ∀ g, blk (v i) = some g → blk (v j) ≠ some g
  ne : gm ≠ gt
  base : B ≤ gs ∧ B ≤ gn ∧ B ≤ gt ∧ B ≤ gm
  size : B ≤ w.heap.size
theorem at_ne' {w : World} {g g' T T' : Nat} {cs cs' : Array Value} (h : At w g T cs) (h' : At w g' T' cs') (hT : T ≠ T') : g ≠ g' := by
  intro e
  subst e
  have h1 : w.heap[g]? = some (.cells cs T (0, 0)) := h
  have h2 : w.heap[g]? = some (.cells cs' T' (0, 0)) := h'
  rw [h1] at h2
  simp at h2
  exact hT h2.2
theorem ownQ_one {B : Nat} {w : World} {v : Value} {xs : List Int} (h : OwnQ B w v xs) : v.oneCell' = true := by obtain ⟨p, c, rfl⟩ := h.form; rfl
theorem blk_ne {B : Nat} {w : World} {v : Value} {xs : List Int} {g T : Nat} {cs : Array Value} (h : OwnQ B w v xs) (hat : At w g T cs) (hT : T ≠ 3) : blk v ≠ some g := by
  intro e
  obtain ⟨_, _, cur, hc⟩ := h.lt e
  exact at_ne' hat hc hT rfl
section
variable {B : Nat} {w w' : World} {gs gn gt gm : Nat} {a b : ByteArray} {q : Q} {v : Nat → Value}
theorem PW.below (h : PW B w gs gn gt gm a b q v) (hb : Below w.heap.size w w') : PW B w' gs gn gt gm a b q v :=
  ⟨h.st.ext hb, h.nm.ext hb, h.mi.ext hb, h.th.ext hb, fun j hj => (h.own j hj).below hb, h.apart, h.ne, h.base, Nat.le_trans h.size hb.size⟩
/-- The state is put. -/
theorem PW.setSt (h : PW B w gs gn gt gm a b q v) (s : Nat) (hs : s < 2) (n : Int) (hat : At w' gs 33 ((#[.int .i64 q.s0, .int .i64 q.s1] : Array Value).set! s (.int .i64 n))) (hg : w.grownBy w' (some gs)) : PW B w' gs gn gt gm a b (q.setSt s n) v := by
  refine ⟨?_, h.nm.grown hg (at_ne' h.nm h.st (by decide)), h.mi.grown hg (at_ne' h.mi h.st (by decide)), h.th.grown hg (at_ne' h.th h.st (by decide)), fun j hj => ?_, h.apart, h.ne, h.base, Nat.le_trans h.size hg.size⟩
  · match s, hs with
    | 0, _ => exact hat
    | 1, _ => exact hat
  · rw [x_setSt]
    exact (h.own j hj).grown hg (blk_ne (h.own j hj) h.st (by decide))
def updV (v : Nat → Value) (j : Nat) (x : Value) : Nat → Value := fun i => if i = j then x else v i
/-- A queue is put: what was made of its value, and its cell. -/
theorem PW.setX {w1 w2 : World} {gj : Nat} (h : PW B w gs gn gt gm a b q v) (j : Nat) (hj : j < 4) (hgj : gj = if j < 2 then gm else gt) (l : List Int) (x : Value) (ho : OwnQ B w1 x l) (hg1 : w.grownBy w1 (blk (v j))) (hw : blk x = blk (v j) ∨ blk x = some w.heap.size)
    (hat : At w2 gj 34 ((if j < 2 then #[v 0, v 1] else #[v 2, v 3] : Array Value).set! (j % 2) x)) (hg2 : w1.grownBy w2 (some gj)) : PW B w2 gs gn gt gm a b (q.setX j l) (updV v j x) := by
  have keep : ∀ {g T : Nat} {cs : Array Value}, At w g T cs → T ≠ 3 → At w1 g T cs := by
    intro g T cs hat hT
    have hne := blk_ne (h.own j hj) hat hT
    unfold At at hat ⊢
    rw [hg1.block g (At.lt hat) (fun e => hne e.symm)]
    exact hat
  have st1 := keep h.st (by decide)
  have nm1 := keep h.nm (by decide)
  have mi1 := keep h.mi (by decide)
  have th1 := keep h.th (by decide)
  have own1 : ∀ i, i < 4 → i ≠ j → OwnQ B w1 (v i) (q.x i) := by
    intro i hi hij
    cases hb : blk (v j) with
    | none =>
      refine (h.own i hi).below ?_
      rw [hb] at hg1
      exact ⟨hg1.os, hg1.tape, hg1.output, hg1.size, fun k hk => hg1.block k hk (by simp)⟩
    | some r =>
      rw [hb] at hg1
      exact (h.own i hi).grown hg1 (fun e => h.apart i j hi hj hij r e hb)
  have hTj : ∃ cs, At w1 gj 34 cs := by
    rw [hgj]
    split
    · exact ⟨_, mi1⟩
    · exact ⟨_, th1⟩
  obtain ⟨csj, hatj⟩ := hTj
  have hsz := hg1.size
  refine ⟨?_, nm1.grown hg2 (at_ne' nm1 hatj (by decide)), ?_, ?_, fun i hi => ?_, fun i k hi hk hik g e1 e2 => ?_, h.ne, h.base, Nat.le_trans h.size (Nat.le_trans hsz hg2.size)⟩
  · have e0 : (q.setX j l).s0 = q.s0 := st_setX q j l 0
    have e1 : (q.setX j l).s1 = q.s1 := st_setX q j l 1
    rw [e0, e1]
    exact st1.grown hg2 (at_ne' st1 hatj (by decide))
  · by_cases h2 : j < 2
    · rw [if_pos h2] at hgj hat
      subst hgj
      match j, h2 with
      | 0, _ => exact hat
      | 1, _ => exact hat
    · rw [if_neg h2] at hgj
      subst hgj
      have e0 : updV v j x 0 = v 0 := if_neg (by omega)
      have e1 : updV v j x 1 = v 1 := if_neg (by omega)
      rw [e0, e1]
      exact mi1.grown hg2 h.ne
  · by_cases h2 : j < 2
    · rw [if_pos h2] at hgj
      subst hgj
      have e0 : updV v j x 2 = v 2 := if_neg (by omega)
      have e1 : updV v j x 3 = v 3 := if_neg (by omega)
      rw [e0, e1]
      exact th1.grown hg2 (Ne.symm h.ne)
    · rw [if_neg h2] at hgj hat
      subst hgj
      match j, hj, h2 with
      | 2, _, _ => exact hat
      | 3, _, _ => exact hat
  · rw [x_setX q j i l hj hi]
    by_cases e : i = j
    · subst e
      rw [if_pos rfl, show updV v i x i = x from if_pos rfl]
      exact ho.grown hg2 (blk_ne ho hatj (by decide))
    · rw [if_neg e, show updV v j x i = v i from if_neg e]
      exact (own1 i hi e).grown hg2 (blk_ne (own1 i hi e) hatj (by decide))
  · by_cases ei : i = j
    · subst ei
      rw [show updV v i x i = x from if_pos rfl] at e1
      rw [show updV v i x k = v k from if_neg (Ne.symm hik)] at e2
      rcases hw with hw | hw
      · exact h.apart i k hi hk hik g (by rw [← hw]; exact e1) e2
      · rw [hw] at e1
        cases e1
        have := ((h.own k hk).lt e2).2.1
        omega
    · rw [show updV v j x i = v i from if_neg ei] at e1
      by_cases ek : k = j
      · subst ek
        rw [show updV v k x k = x from if_pos rfl] at e2
        rcases hw with hw | hw
        · exact h.apart i k hi hk hik g e1 (by rw [← hw]; exact e2)
        · rw [hw] at e2
          cases e2
          have := ((h.own i hi).lt e1).2.1
          omega
      · rw [show updV v j x k = v k from if_neg ek] at e2
        exact h.apart i k hi hk hik g e1 e2
end
end Go.Proofs.Ytamemmbcdkhdhaa.Peer
