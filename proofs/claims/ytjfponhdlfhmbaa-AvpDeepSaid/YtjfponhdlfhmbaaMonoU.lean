/-
  A REGION THAT DRAWS ITS ORDER, WHOSE SLOTS HOLD KNOWN VALUES, AND WHOSE WORLD IS KNOWN BY WHICH OPERATIONS HAVE RUN (J): each operation is shown once, whatever the order. No operation is guarded. No program is looked into here.
-/
import Derived.Test.YtjfponhdlfhmbaaMono
namespace Go.Proofs.Ytjfponhdlfhmbaa.MonoU
open Go.RowKit Mono
set_option linter.unusedVariables false

/-- The value is the one that was said ahead. -/
def known (vs : List (Option Value)) (i : Nat) (v : Value) : Prop := ∀ c, vs.getD i none = some c → v = c
/-- What slot i holds: what was said ahead, or what came. -/
def pick (vs : List (Option Value)) (u : Nat → Value) (i : Nat) : Value := match vs.getD i none with | some c => c | none => u i
def upd (u : Nat → Value) (j : Nat) (v : Value) : Nat → Value := fun i => if i = j then v else u i
theorem pick_same {vs : List (Option Value)} {u : Nat → Value} {j : Nat} {v : Value} (h : known vs j v) : pick vs (upd u j v) j = v := by
  unfold pick
  cases hc : vs.getD j none with
  | none => simp [upd]
  | some c => simp; exact (h c hc).symm
theorem pick_ne {vs : List (Option Value)} {u : Nat → Value} {i j : Nat} {v : Value} (h : ¬ i = j) : pick vs (upd u j v) i = pick vs u i := by
  unfold pick upd
  rw [if_neg h]
section
variable (P : Program)
/-- What is to be shown of operation j: v is what its slot holds. -/
def OpGoal (ops : List Oper) (ds : List (Option Nat)) (vs : List (Option Value)) (J : Array Bool → (Nat → Value) → World → Prop) (a0 : Act) (j : Nat) (o : Oper) : Prop :=
  ∀ (listed : Array Bool) (u : Nat → Value) (a : Act) (w : World), J listed u w → listed.size = ops.length → listed.getD j true = false → (∀ e ∈ o.after.toList, Region.binds .any e = true → listed.getD e.on false = true) →
    (∀ t, some t ∉ ds → a.eval (.tmp t) = a0.eval (.tmp t)) → (∀ i d, listed.getD i false = true → ds[i]? = some (some d) → a.eval (.tmp d) = pick vs u i) → (∀ i d, listed.getD i false = false → ds[i]? = some (some d) → a.eval (.tmp d) = a0.eval (.tmp d)) →
    o.wp P a w (fun a' w' => ∃ v, a' = a.put o.dst v ∧ known vs j v ∧ J (listed.setIfInBounds j true) (upd u j v) w') (fun _ _ _ => False)
structure Inv (ds : List (Option Nat)) (vs : List (Option Value)) (J : Array Bool → (Nat → Value) → World → Prop) (a0 : Act) (listed : Array Bool) (u : Nat → Value) (a : Act) (w : World) : Prop where
  world : J listed u w
  size : a.tmps.size = a0.tmps.size
  defers : a.defers = a0.defers
  same : ∀ t, some t ∉ ds → a.tmps[t]? = a0.tmps[t]?
  holds : ∀ (i d : Nat), listed.getD i false = true → ds[i]? = some (some d) → a.eval (.tmp d) = pick vs u i
  fresh : ∀ (i d : Nat), listed.getD i false = false → ds[i]? = some (some d) → a.eval (.tmp d) = a0.eval (.tmp d)
end
section
variable {P : Program}
theorem uniq : ∀ (l : List (Option Nat)) (i j d : Nat), (l.filterMap id).Nodup → l[i]? = some (some d) → l[j]? = some (some d) → i = j := by
  intro l
  induction l with
  | nil => intro i j d _ h; simp at h
  | cons x l ih =>
    intro i j d hn hi hj
    cases i with
    | zero =>
      cases j with
      | zero => rfl
      | succ j =>
        simp at hi hj
        subst hi
        simp only [List.filterMap_cons, id] at hn
        rw [List.nodup_cons] at hn
        exact absurd (show d ∈ l.filterMap id from List.mem_filterMap.2 ⟨some d, List.mem_of_getElem? hj, rfl⟩) hn.1
    | succ i =>
      cases j with
      | zero =>
        simp at hi hj
        subst hj
        simp only [List.filterMap_cons, id] at hn
        rw [List.nodup_cons] at hn
        exact absurd (show d ∈ l.filterMap id from List.mem_filterMap.2 ⟨some d, List.mem_of_getElem? hi, rfl⟩) hn.1
      | succ j =>
        have hn' : (l.filterMap id).Nodup := by
          cases x with
          | none => simpa using hn
          | some x => simp only [List.filterMap_cons, id] at hn; exact (List.nodup_cons.1 hn).2
        rw [ih i j d hn' (by simpa using hi) (by simpa using hj)]
theorem step_op {ops : List Oper} {ds : List (Option Nat)} {vs : List (Option Value)} {J : Array Bool → (Nat → Value) → World → Prop} {a0 : Act} {Q : Exit → Act → World → Prop} {listed : Array Bool} {u : Nat → Value} {a : Act} {w : World} {K : Act → World → Prop}
    (hf : formB ops ds a0.tmps.size = true) (hgd : ∀ o ∈ ops, o.guard = none) (hg : ∀ (j : Nat) (o : Oper), ops[j]? = some o → OpGoal P ops ds vs J a0 j o) (hsz : listed.size = ops.length)
    (h : Inv ds vs J a0 listed u a w) {j : Nat} (hj : j ∈ Region.ready .any ops.toArray listed)
    (hK : ∀ u' a' w', Inv ds vs J a0 (listed.setIfInBounds j true) u' a' w' → K a' w') : wpOp P ops.toArray Q j K a w := by
  obtain ⟨hjun, o, ho, hall⟩ := mem_ready.1 hj
  have ho' : ops[j]? = some o := by simpa using ho
  simp only [formB, Bool.and_eq_true, beq_iff_eq, decide_eq_true_eq, List.all_eq_true] at hf
  obtain ⟨⟨⟨⟨f1, f2⟩, f3⟩, f4⟩, f5⟩ := hf
  have hdj : ds[j]? = some o.dst := by rw [← f1]; simp [ho']
  have hom : o ∈ ops := List.mem_of_getElem? ho'
  have goal := hg j o ho' listed u a w h.world hsz hjun (fun e he hbe => hall e (by simpa using he) hbe) (fun t ht => by simp [Act.eval, Array.getD_eq_getD_getElem?, h.same t ht]) h.holds h.fresh
  unfold wpOp
  simp only [ho]
  rw [show Region.wanted o (yielded ops.toArray a.tmps) = true by unfold Region.wanted; rw [hgd o hom]]
  rw [if_pos rfl]
  refine .inl (Oper.wp_mono (fun a' w' ⟨v, e, hkn, hJ⟩ => ?_) (wp_weaken goal))
  subst e
  refine hK (upd u j v) _ _ ⟨hJ, (put_size ..).trans h.size, (put_defers ..).trans h.defers, fun t ht => ?_, fun i d hi hd => ?_, fun i d hi hd => ?_⟩
  · rw [put_ne _ _ _ _ (fun e => ht (by rw [← e]; exact List.mem_of_getElem? hdj))]
    exact h.same t ht
  · by_cases hij : i = j
    · subst hij
      rw [hdj] at hd
      have hd' : o.dst = some d := Option.some.inj hd
      rw [hd', eval_put_same _ _ _ (by
        rw [h.size]
        have := f3 d (List.mem_filterMap.2 ⟨some d, by rw [← hd']; exact List.mem_of_getElem? hdj, rfl⟩)
        simpa using this)]
      exact (pick_same hkn).symm
    · have hi' : listed.getD i false = true := by
        simp only [Array.getD_eq_getD_getElem?] at hi ⊢
        rwa [Array.getElem?_setIfInBounds_ne (Ne.symm hij)] at hi
      rw [eval_put_ne _ _ _ _ (fun e => hij (uniq ds i j d f2 hd (by rw [hdj, e])))]
      rw [pick_ne hij]
      exact h.holds i d hi' hd
  · by_cases hij : i = j
    · subst hij
      have hlt : i < listed.size := by have := (List.getElem?_eq_some_iff.1 ho').1; omega
      simp [Array.getD_eq_getD_getElem?, hlt] at hi
    · have hi' : listed.getD i false = false := by
        simp only [Array.getD_eq_getD_getElem?] at hi ⊢
        rwa [Array.getElem?_setIfInBounds_ne (Ne.symm hij)] at hi
      rw [eval_put_ne _ _ _ _ (fun e => hij (uniq ds i j d f2 hd (by rw [hdj, e])))]
      exact h.fresh i d hi' hd
theorem wpAny_J {ops : List Oper} {ds : List (Option Nat)} {vs : List (Option Value)} {J : Array Bool → (Nat → Value) → World → Prop} {a0 : Act} {Q : Exit → Act → World → Prop}
    (hf : formB ops ds a0.tmps.size = true) (hgd : ∀ o ∈ ops, o.guard = none) (hg : ∀ (j : Nat) (o : Oper), ops[j]? = some o → OpGoal P ops ds vs J a0 j o)
    (hQ : ∀ listed u a w, listed.size = ops.length → (∀ i, i < ops.length → listed.getD i false = true) → Inv ds vs J a0 listed u a w → Q .normal a w) :
    ∀ (fuel : Nat) (listed : Array Bool) (u : Nat → Value) (a : Act) (w : World), listed.size = ops.length → listed.toList.count false ≤ fuel → Inv ds vs J a0 listed u a w → wpAny P .any ops.toArray Q fuel listed a w
  | 0, listed, u, a, w, hsz, hc, h => by
    have hall : ∀ i, i < ops.length → listed.getD i false = true := fun i hi => count_zero (by omega) i (by omega)
    refine ⟨?_, hQ listed u a w hsz hall h⟩
    cases hr : Region.ready .any ops.toArray listed with
    | nil => rfl
    | cons j l =>
      have hj : j ∈ Region.ready .any ops.toArray listed := by rw [hr]; simp
      obtain ⟨h1, o, ho, _⟩ := mem_ready.1 hj
      have hlt : j < ops.length := by simpa using (Array.getElem?_eq_some_iff.1 ho).1
      have h2 := hall j hlt
      simp [Array.getD_eq_getD_getElem?, show j < listed.size by omega] at h1 h2
      rw [h1] at h2
      cases h2
  | fuel + 1, listed, u, a, w, hsz, hc, h => by
    refine ⟨fun hr => hQ listed u a w hsz (fun i => ?_) h, fun j hj => ?_⟩
    · induction i using Nat.strongRecOn with
      | _ i ih =>
        intro hi
        have hlt : i < listed.size := by omega
        cases hb' : listed[i] with
        | true => simp [Array.getD_eq_getD_getElem?, hlt, hb']
        | false =>
          exfalso
          have : i ∈ Region.ready .any ops.toArray listed := by
            refine mem_ready.2 ⟨by simp [Array.getD_eq_getD_getElem?, hlt, hb'], ops[i], by simp, fun e he hbe => ?_⟩
            simp only [formB, Bool.and_eq_true, beq_iff_eq, decide_eq_true_eq, List.all_eq_true] at hf
            obtain ⟨⟨_, f4⟩, _⟩ := hf
            have h4 := f4 (ops[i], i) (by rw [List.mem_iff_getElem?]; exact ⟨i, by simp⟩)
            have h5 : e.on < i := by simpa [hbe] using h4 e (by simpa using he)
            exact ih e.on h5 (by omega)
          rw [hr] at this
          cases this
    · have h1 := (mem_ready.1 hj).1
      exact step_op hf hgd hg hsz h hj (fun u' a' w' h' => wpAny_J hf hgd hg hQ fuel _ u' a' w' (by simpa using hsz) (by have := count_set h1; omega) h')
/-- The goals, one behind the other. -/
def OpGoals (P : Program) (ops : List Oper) (ds : List (Option Nat)) (vs : List (Option Value)) (J : Array Bool → (Nat → Value) → World → Prop) (a0 : Act) : Nat → List Oper → Prop
  | j, o :: os => OpGoal P ops ds vs J a0 j o ∧ OpGoals P ops ds vs J a0 (j + 1) os
  | _, [] => True
theorem opGoals_at {ops : List Oper} {ds : List (Option Nat)} {vs : List (Option Value)} {J : Array Bool → (Nat → Value) → World → Prop} {a0 : Act} : ∀ {os : List Oper} {k : Nat}, OpGoals P ops ds vs J a0 k os → ∀ (i : Nat) (o : Oper), os[i]? = some o → OpGoal P ops ds vs J a0 (k + i) o
  | [], _, _, i, o, h => by simp at h
  | o' :: os, k, h, i, o, ho => by
    cases i with
    | zero =>
      simp at ho
      subst ho
      exact h.1
    | succ i =>
      have := opGoals_at h.2 i o (by simpa using ho)
      rw [show k + 1 + i = k + (i + 1) from by omega] at this
      simpa using this
theorem getD_set_ne {l : Array Bool} {i j : Nat} (h : j ≠ i) : (l.setIfInBounds j true).getD i false = l.getD i false := by
  simp only [Array.getD_eq_getD_getElem?]
  rw [Array.getElem?_setIfInBounds_ne h]
theorem getD_set_same {l : Array Bool} {j : Nat} (h : j < l.size) : (l.setIfInBounds j true).getD j false = true := by
  simp [Array.getD_eq_getD_getElem?, h]
theorem getD_false {l : Array Bool} {j : Nat} (h : l.getD j true = false) : l.getD j false = false := by
  simp only [Array.getD_eq_getD_getElem?] at h ⊢
  cases hj : l[j]? with
  | none => rfl
  | some b => rw [hj] at h; simpa using h
/-- THE LAW: a drawn region whose slots hold known values. -/
theorem wp_region_U {id : Nat} {ops : List Oper} {Q : Exit → Act → World → Prop} {a0 : Act} {w0 : World} (ds : List (Option Nat)) (vs : List (Option Value)) (J : Array Bool → (Nat → Value) → World → Prop) (hm : P.follows .mixedOrders = true)
    (hf : formB ops ds a0.tmps.size = true) (hgd : (ops.all fun o => o.guard.isNone) = true) (u0 : Nat → Value) (h0 : J (Array.replicate ops.length false) u0 w0.drew) (hg' : OpGoals P ops ds vs J a0 0 ops)
    (hfin : ∀ u w, J (Array.replicate ops.length true) u w → Q .normal (ds.zipIdx.foldl (fun a x => a.put x.1 (pick vs u x.2)) a0) w) : (Code.region id ops.toArray true).wp P Q a0 w0 := by
  have hg : ∀ (j : Nat) (o : Oper), ops[j]? = some o → OpGoal P ops ds vs J a0 j o := fun j o ho => by
    have := opGoals_at hg' j o ho
    rwa [Nat.zero_add] at this
  have hgd' : ∀ o ∈ ops, o.guard = none := fun o ho => by
    have := List.all_eq_true.1 hgd o ho
    simpa using this
  have hf' := hf
  simp only [formB, Bool.and_eq_true, beq_iff_eq, decide_eq_true_eq, List.all_eq_true] at hf'
  obtain ⟨⟨⟨⟨f1, f2⟩, f3⟩, _⟩, _⟩ := hf'
  have hdl : ds.length = ops.length := by rw [← f1]; simp
  refine wp_region_any hm (wpAny_J hf hgd' hg ?_ _ _ u0 _ _ (by simp) ?_ ?_)
  · intro listed u a w hsz hall h
    have hl : listed = Array.replicate ops.length true := by
      apply Array.ext (by simpa using hsz)
      intro i h1 h2
      have := hall i (by omega)
      rw [Array.getD_eq_getD_getElem?, Array.getElem?_eq_getElem h1] at this
      simpa using this
    subst hl
    have hK := hfin u w h.world
    have e : ds.zipIdx.foldl (fun a x => a.put x.1 (pick vs u x.2)) a0 = a := by
      obtain ⟨s1, s2⟩ := foldl_put_size (fun i => pick vs u i) ds 0 a0
      have hts : (ds.zipIdx.foldl (fun a x => a.put x.1 (pick vs u x.2)) a0).tmps = a.tmps := by
        apply Array.ext (by rw [s1, h.size])
        intro t ht1 ht2
        have key : (ds.zipIdx.foldl (fun a x => a.put x.1 (pick vs u x.2)) a0).tmps[t]? = a.tmps[t]? := by
          by_cases hm : some t ∈ ds
          · obtain ⟨i, hi⟩ := List.mem_iff_getElem?.1 hm
            rw [foldl_put_at (fun i => pick vs u i) t ds 0 a0 f2 (by rw [← h.size]; exact ht2) i hi, Nat.zero_add]
            have hil : i < ops.length := by have := (List.getElem?_eq_some_iff.1 hi).1; omega
            have h3 := h.holds i t (hall i hil) hi
            simp only [Act.eval, Array.getD_eq_getD_getElem?] at h3
            rw [Array.getElem?_eq_getElem ht2] at h3 ⊢
            simp at h3
            rw [h3]
          · rw [foldl_put_ne (fun i => pick vs u i) t ds 0 a0 hm, h.same t hm]
        rw [Array.getElem?_eq_getElem ht1, Array.getElem?_eq_getElem ht2] at key
        exact Option.some.inj key
      generalize ds.zipIdx.foldl (fun a x => a.put x.1 (pick vs u x.2)) a0 = b at *
      obtain ⟨bt, bd⟩ := b
      obtain ⟨at', ad⟩ := a
      simp only at hts s2
      rw [hts, s2, ← h.defers]
    rw [e] at hK
    exact hK
  · simp
  · refine ⟨by simpa using h0, rfl, rfl, fun _ _ => rfl, fun i d hi => ?_, fun _ _ _ _ => rfl⟩
    simp [Array.getD_eq_getD_getElem?, Array.getElem?_replicate] at hi
    split at hi <;> cases hi
end
end Go.Proofs.Ytjfponhdlfhmbaa.MonoU
