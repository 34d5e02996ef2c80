/-
  What rules say of attributes: of lists in another order, of longer lists. No program.
-/
import Derived.Test.YtjfmahodbdianaaDoorDict3
import Derived.Test.YtjfmahodbdianaaDoorFits
import Derived.Test.YtjfmahodbdianaaDoorValid
import Derived.Test.YtjfmahodbdianaaDoorJudge1
import Derived.Test.YtjfmahodbdianaaDoorOwnD
namespace Go.Proofs.YtjfmahodbdianaaDoor.Dict
open Go.RowKit Mem Cells Ops Rule Avps
set_option linter.unusedVariables false
set_option linter.unusedSimpArgs false

theorem oneAt_more (fit : Int → List Int → Int) (rs : List R) (l m : List A) (k : Nat) (hk : k < l.length) : oneAt fit rs (l ++ m) k = oneAt fit rs l k := by
  unfold oneAt
  rw [List.getElem?_append_left hk, List.take_append_of_le_length (by omega)]
/-- What may be answered where the rules may be. -/
theorem verdict_cases (fit : Int → List Int → Int) (rs : List R) (l : List A) (h : sound rs) :
    (∃ k x n, l[k]? = some x ∧ (∀ j, j < k → oneAt fit rs l j = 2001) ∧ oneAt fit rs l k = n ∧ n ≠ 2001 ∧ n ≠ 5005 ∧ verdict fit rs l = (n, [x], 0)) ∨
    ((∀ j, j < l.length → oneAt fit rs l j = 2001) ∧ (∃ r, r ∈ rs ∧ lacks l r = true ∧ verdict fit rs l = (5005, [lackA r], 0))) ∨
    ((∀ j, j < l.length → oneAt fit rs l j = 2001) ∧ (∀ r ∈ rs, lacks l r = false) ∧ verdict fit rs l = (2001, [], 0)) := by
  by_cases h0 : ∀ j, j < l.length → oneAt fit rs l j = 2001
  · right
    by_cases h1 : ∀ r ∈ rs, lacks l r = false
    · exact .inr ⟨h0, h1, verdict_fine h h0 (fun j x hj => h1 x (List.mem_of_getElem? hj))⟩
    · have : ∃ (k : Nat) (r : R), rs[k]? = some r ∧ lacks l r = true ∧ ∀ (j : Nat) (x : R), j < k → rs[j]? = some x → lacks l x = false := by
        obtain ⟨r, hr⟩ : ∃ r, rs.find? (lacks l) = some r := by
          cases e : rs.find? (lacks l) with
          | some r => exact ⟨r, rfl⟩
          | none =>
            exfalso
            exact h1 (fun r hr => by simpa using List.find?_eq_none.1 e r hr)
        obtain ⟨h2, k, hk, e, h3⟩ := List.find?_eq_some_iff_getElem.1 hr
        refine ⟨k, r, by rw [List.getElem?_eq_getElem hk, e], h2, fun j x hj hx => ?_⟩
        have := h3 j hj
        obtain ⟨hjl, e2⟩ := List.getElem?_eq_some_iff.1 hx
        rw [e2] at this
        simpa using this
      obtain ⟨k, r, hk, h2, h3⟩ := this
      exact .inl ⟨h0, r, List.mem_of_getElem? hk, h2, verdict_lack h h0 hk h3 h2⟩
  · left
    have : ∃ k : Nat, k < l.length ∧ oneAt fit rs l k ≠ 2001 ∧ ∀ j, j < k → oneAt fit rs l j = 2001 := by
      have key : ∀ n, (∀ j, j < n → oneAt fit rs l j = 2001) ∨ ∃ k, k < n ∧ oneAt fit rs l k ≠ 2001 ∧ ∀ j, j < k → oneAt fit rs l j = 2001 := by
        intro n
        induction n with
        | zero => exact .inl (fun j hj => absurd hj (Nat.not_lt_zero _))
        | succ n ih =>
          rcases ih with ih | ⟨k, k1, k2, k3⟩
          · by_cases e : oneAt fit rs l n = 2001
            · exact .inl (fun j hj => by rcases Nat.lt_succ_iff_lt_or_eq.1 hj with h | h; exact ih j h; rw [h]; exact e)
            · exact .inr ⟨n, Nat.lt_succ_self _, e, ih⟩
          · exact .inr ⟨k, by omega, k2, k3⟩
      rcases key l.length with k | k
      · exact absurd k h0
      · exact k
    obtain ⟨k, hk, hn, hlow⟩ := this
    have hx : l[k]? = some l[k] := List.getElem?_eq_getElem hk
    refine ⟨k, l[k], _, hx, hlow, rfl, hn, ?_, verdict_bad h hx hlow rfl hn⟩
    unfold oneAt
    rw [hx]
    simp only
    unfold oneV judgeN judgeR
    split
    · split <;> decide
    · repeat' split
      all_goals decide
/-- The first one at fault counts, whatever stands behind it. -/
theorem verdict_more (fit : Int → List Int → Int) (rs : List R) (l m : List A) (h : sound rs) (h1 : (verdict fit rs l).1 ≠ 2001) (h2 : (verdict fit rs l).1 ≠ 5005) : verdict fit rs (l ++ m) = verdict fit rs l := by
  rcases verdict_cases fit rs l h with ⟨k, x, n, hx, h0, hk, hn, _, e⟩ | ⟨_, r, _, _, e⟩ | ⟨_, _, e⟩
  · have hkl : k < l.length := (List.getElem?_eq_some_iff.1 hx).1
    rw [e]
    exact verdict_bad h (by rw [List.getElem?_append_left hkl]; exact hx) (fun j hj => by rw [oneAt_more _ _ _ _ _ (by omega)]; exact h0 j hj) (by rw [oneAt_more _ _ _ _ _ hkl]; exact hk) hn
  · rw [e] at h2; exact absurd rfl h2
  · rw [e] at h1; exact absurd rfl h1
/-- What is fine of a whole list, whichever its order is. -/
def okA (fit : Int → List Int → Int) (rs : List R) (l : List A) (x : A) : Prop :=
  match ruleOf rs x with
  | none => x.must = false
  | some r => r.most ≠ 0 ∧ (cntN l x.code x.vendor : Int) ≤ r.most ∧ fit r.type x.data = 0
theorem judgeR_fine (fit : Int → List Int → Int) (r : R) (xs : List Int) (n : Int) : judgeR fit r xs n = 2001 ↔ (r.most ≠ 0 ∧ n ≤ r.most ∧ fit r.type xs = 0) := by
  unfold judgeR
  by_cases h0 : r.most = 0
  · simp [h0]
  rw [if_neg h0]
  by_cases h1 : r.most < n
  · rw [if_pos h1]; constructor
    · intro h; cases h
    · intro h; omega
  rw [if_neg h1]
  by_cases h2 : fit r.type xs = 0
  · rw [if_pos h2]; exact ⟨fun _ => ⟨h0, by omega, h2⟩, fun _ => rfl⟩
  rw [if_neg h2]
  constructor
  · intro h; split at h <;> cases h
  · intro h; exact absurd h.2.2 h2
theorem cntN_take_le (l : List A) (k : Nat) (c v : Int) : cntN (l.take k) c v ≤ cntN l c v := (List.take_sublist k l).countP_le
theorem sameN_self (x : A) : sameN x.code x.vendor x = true := by unfold sameN; simp
theorem ruleOf_same (rs : List R) (x y : A) (h : sameN x.code x.vendor y = true) : ruleOf rs y = ruleOf rs x ∧ y.code = x.code ∧ y.vendor = x.vendor := by
  have : y.code = x.code ∧ y.vendor = x.vendor := by unfold sameN at h; simp at h; omega
  obtain ⟨e1, e2⟩ := this
  exact ⟨by unfold ruleOf; rw [e1, e2], e1, e2⟩
theorem fine_iff (fit : Int → List Int → Int) (rs : List R) (l : List A) : (∀ j, j < l.length → oneAt fit rs l j = 2001) ↔ ∀ x ∈ l, okA fit rs l x := by
  constructor
  · intro h x hx
    obtain ⟨j, hj, e⟩ := List.getElem_of_mem hx
    have hone := h j hj
    -- the last one of that name
    have key : ∀ n, n ≤ l.length → ∀ y ∈ l.take n, (match ruleOf rs y with | none => y.must = false | some r => r.most ≠ 0 ∧ (cntN (l.take n) y.code y.vendor : Int) ≤ r.most ∧ fit r.type y.data = 0) := by
      intro n
      induction n with
      | zero => intro _ y hy; simp at hy
      | succ n ih =>
        intro hn y hy
        have hnl : n < l.length := by omega
        have ho := h n hnl
        unfold oneAt at ho
        rw [List.getElem?_eq_getElem hnl] at ho
        simp only at ho
        unfold oneV at ho
        rw [List.take_succ_eq_append_getElem hnl] at hy ⊢
        rcases List.mem_append.1 hy with hy | hy
        · have h1 := ih (by omega) y hy
          by_cases hs : sameN y.code y.vendor l[n] = true
          · obtain ⟨e1, e2, e3⟩ := ruleOf_same rs y l[n] hs
            rw [e1, e2, e3] at ho
            cases hr : ruleOf rs y with
            | none => rw [hr] at h1; exact h1
            | some r =>
              rw [hr] at h1 ho
              simp only at h1 ho ⊢
              obtain ⟨a1, a2, a3⟩ := (judgeR_fine _ _ _ _).1 ho
              exact ⟨a1, a2, h1.2.2⟩
          · have e : cntN (l.take n ++ [l[n]]) y.code y.vendor = cntN (l.take n) y.code y.vendor := by
              unfold cntN
              rw [List.countP_append, List.countP_singleton, if_neg hs, Nat.add_zero]
            rw [e]
            exact h1
        · rw [List.mem_singleton] at hy
          subst hy
          cases hr : ruleOf rs l[n] with
          | none =>
            rw [hr] at ho
            simp only at ho ⊢
            unfold judgeN at ho
            split at ho
            · cases ho
            · rename_i hm; simpa using hm
          | some r =>
            rw [hr] at ho
            simp only at ho ⊢
            exact (judgeR_fine _ _ _ _).1 ho
    have := key l.length (Nat.le_refl _) x (by rw [List.take_length]; exact hx)
    rw [List.take_length] at this
    exact this
  · intro h j hj
    have hx := h l[j] (List.getElem_mem hj)
    unfold oneAt
    rw [List.getElem?_eq_getElem hj]
    simp only
    unfold oneV
    unfold okA at hx
    cases hr : ruleOf rs l[j] with
    | none => rw [hr] at hx; simp only at hx ⊢; unfold judgeN; rw [hx]; rfl
    | some r =>
      rw [hr] at hx
      simp only at hx ⊢
      refine (judgeR_fine _ _ _ _).2 ⟨hx.1, ?_, hx.2.2⟩
      rw [← List.take_succ_eq_append_getElem hj]
      have := cntN_take_le l (j + 1) l[j].code l[j].vendor
      have := hx.2.1
      omega
/-- Attributes that are fine are fine in any order, and with one more that no rule knows. -/
theorem verdict_perm (fit : Int → List Int → Int) (rs : List R) (l l' : List A) (x : A) (hp : l'.Perm l) (h : verdict fit rs l = (2001, [], 0)) (hm : x.must = false) (hn : ∀ r ∈ rs, hitR x.code x.vendor r = false) : verdict fit rs (l' ++ [x]) = (2001, [], 0) := by
  have hs : sound rs := by
    by_cases hs : sound rs
    · exact hs
    · rw [verdict_form hs] at h; cases h
  rcases verdict_cases fit rs l hs with ⟨k, y, n, _, _, _, hn2, _, e⟩ | ⟨_, r, _, _, e⟩ | ⟨h0, h1, _⟩
  · rw [e] at h; cases h
  · rw [e] at h; cases h
  have hcnt : ∀ c v, cntN l' c v = cntN l c v := fun c v => hp.countP_eq _
  have hrx : ruleOf rs x = none := by
    unfold ruleOf
    rw [List.find?_eq_none]
    intro r hr
    rw [hn r hr]
    simp
  have hcx : ∀ c v, (∃ r ∈ rs, hitR c v r = true) → cntN (l' ++ [x]) c v = cntN l c v := by
    intro c v ⟨r, hr, hh⟩
    unfold cntN
    rw [List.countP_append, List.countP_singleton]
    have : ¬ sameN c v x = true := fun hsx => by
      have e : hitR x.code x.vendor r = false := hn r hr
      unfold sameN at hsx
      unfold hitR at hh e
      simp at hsx hh e
      omega
    rw [if_neg this, Nat.add_zero]
    exact hcnt c v
  refine verdict_fine hs ((fine_iff fit rs (l' ++ [x])).2 fun y hy => ?_) (fun j r hj => ?_)
  · rcases List.mem_append.1 hy with hy | hy
    · have h2 := (fine_iff fit rs l).1 h0 y (hp.mem_iff.1 hy)
      unfold okA at h2 ⊢
      cases hr : ruleOf rs y with
      | none => rw [hr] at h2; exact h2
      | some r =>
        rw [hr] at h2
        simp only at h2 ⊢
        have hf := hr
        unfold ruleOf at hf
        rw [hcx _ _ ⟨r, List.mem_of_find?_eq_some hf, List.find?_some hf⟩]
        exact h2
    · rw [List.mem_singleton] at hy
      subst hy
      unfold okA
      rw [hrx]
      exact hm
  · have hr := List.mem_of_getElem? hj
    have h2 := h1 r hr
    unfold lacks at h2 ⊢
    rw [hcx _ _ ⟨r, hr, by unfold hitR; simp⟩]
    exact h2
theorem verdict_err (fit : Int → List Int → Int) (rs : List R) (l : List A) (h : sound rs) : (verdict fit rs l).2.2 = 0 := by
  rcases verdict_cases fit rs l h with ⟨k, x, n, _, _, _, _, _, e⟩ | ⟨_, r, _, _, e⟩ | ⟨_, _, e⟩ <;> rw [e]
theorem verdict_len (fit : Int → List Int → Int) (rs : List R) (l : List A) : (verdict fit rs l).2.1.length ≤ 1 := by
  by_cases h : sound rs
  · rcases verdict_cases fit rs l h with ⟨k, x, n, _, _, _, _, _, e⟩ | ⟨_, r, _, _, e⟩ | ⟨_, _, e⟩ <;> rw [e] <;> simp
  · rw [verdict_form h]; simp
end Go.Proofs.YtjfmahodbdianaaDoor.Dict
