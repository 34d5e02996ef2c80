/-
  A REGION THAT DRAWS ITS ORDER, WITH ONE OPERATION (number n) THAT WRITES (an append, a call), AND A LAST ONE THAT STORES WHAT IT YIELDED: those ahead of n only grow memory; those between n and the last are told by their slots alone, in whichever world. Each is shown once. No program is looked into here.
-/
import Derived.Test.YtjfponhdlfhmbaaMonoU
namespace Go.Proofs.Ytjfponhdlfhmbaa.MonoA
open Go.RowKit Mono MonoU
set_option linter.unusedVariables false
set_option linter.unusedSimpArgs false

/-- What is said of a slot: its very value, or a property. -/
inductive Sp where
  | val (c : Value)
  | prp (R : Prp)
def Sp.R : Sp → Prp
  | .val c => isV c
  | .prp R => R
/-- The same, behind the writing operation. -/
def Sp.W : Sp → Prp
  | .val c => isV c
  | .prp _ => anyV
def Sp.v : Sp → Option Value
  | .val c => some c
  | .prp _ => none
section
variable (P : Program)
/-- Of an operation ahead of n. -/
def HeadGoal (ds : List (Option Nat)) (sp : List Sp) (a0 : Act) (w0 : World) (o : Oper) (s : Sp) : Prop :=
  ∀ (a : Act) (w : World), Below w0.heap.size w0 w → (∀ t, some t ∉ ds → a.eval (.tmp t) = a0.eval (.tmp t)) → DepFacts ds (sp.map Sp.R) a w o.after.toList →
    o.wp P a w (fun a' w' => ∃ v, a' = a.put o.dst v ∧ Below w.heap.size w w' ∧ s.R.R v w') (fun _ _ _ => False)
/-- Of an operation between n and the last one. -/
def FloatGoal (ds : List (Option Nat)) (sp : List Sp) (a0 : Act) (o : Oper) (s : Sp) : Prop :=
  ∀ (a : Act) (w : World), (∀ t, some t ∉ ds → a.eval (.tmp t) = a0.eval (.tmp t)) → DepFacts ds (sp.map Sp.W) a w o.after.toList →
    ∃ c, s = .val c ∧ o.wp P a w (fun a' w' => a' = a.put o.dst c ∧ w' = w) (fun _ _ _ => False)
/-- Of the writing one. -/
def AppGoal (ds : List (Option Nat)) (sp : List Sp) (a0 : Act) (w0 : World) (Mid : Value → World → Prop) (o : Oper) : Prop :=
  ∀ (a : Act) (w : World), Below w0.heap.size w0 w → (∀ t, some t ∉ ds → a.eval (.tmp t) = a0.eval (.tmp t)) → DepFacts ds (sp.map Sp.R) a w o.after.toList →
    o.wp P a w (fun a' w' => ∃ v, a' = a.put o.dst v ∧ Mid v w') (fun _ _ _ => False)
/-- Of the last one. -/
def LastGoal (ds : List (Option Nat)) (sp : List Sp) (a0 : Act) (Mid Fin : Value → World → Prop) (d : Nat) (o : Oper) : Prop :=
  ∀ (a : Act) (w : World) (v : Value), Mid v w → a.eval (.tmp d) = v → (∀ t, some t ∉ ds → a.eval (.tmp t) = a0.eval (.tmp t)) → DepFacts ds (sp.map Sp.W) a w o.after.toList →
    o.wp P a w (fun a' w' => ∃ r, a' = a.put o.dst r ∧ Fin v w') (fun _ _ _ => False)
def HeadGoals (ds : List (Option Nat)) (sp : List Sp) (a0 : Act) (w0 : World) (fs : List Nat) : Nat → List Oper → List Sp → Prop
  | j, o :: os, s :: ss => (if fs.contains j = true then FloatGoal P ds sp a0 o s else HeadGoal P ds sp a0 w0 o s) ∧ HeadGoals ds sp a0 w0 fs (j + 1) os ss
  | _, [], _ => True
  | _, _, _ => False
def FloatGoals (ds : List (Option Nat)) (sp : List Sp) (a0 : Act) : List Oper → List Sp → Prop
  | o :: os, s :: ss => FloatGoal P ds sp a0 o s ∧ FloatGoals ds sp a0 os ss
  | [], _ => True
  | _, _ => False
end
/-- Each of those ahead of n (but fs) is waited for by one behind it, up to n. -/
def coverB (ops : List Oper) (n : Nat) (fs : List Nat) : Bool :=
  (List.range n).all fun i => fs.contains i || (List.range (n + 1)).any fun j => decide (i < j) && !fs.contains j && (match ops[j]? with | some o => o.after.toList.any fun e => e.on == i && Region.binds .any e | none => false)
/-- Those that have run are closed under what they waited for. -/
def Cl (ops : List Oper) (l : Array Bool) : Prop := ∀ j o, ops[j]? = some o → l.getD j false = true → ∀ e ∈ o.after.toList, Region.binds .any e = true → l.getD e.on false = true
theorem cover {ops : List Oper} {n : Nat} {fs : List Nat} {l : Array Bool} (hc : coverB ops n fs = true) (hcl : Cl ops l) (hn : l.getD n false = true) : ∀ (q i : Nat), n - i ≤ q → i ≤ n → fs.contains i = false → l.getD i false = true := by
  intro q
  induction q with
  | zero => intro i hq hi _; obtain rfl : i = n := (by omega); exact hn
  | succ q ih =>
    intro i hq hi hfi
    by_cases e : i = n
    · rw [e]; exact hn
    · unfold coverB at hc
      rw [List.all_eq_true] at hc
      have h1 := hc i (List.mem_range.2 (by omega))
      rw [hfi, Bool.false_or, List.any_eq_true] at h1
      obtain ⟨j, hj, h2⟩ := h1
      rw [List.mem_range] at hj
      rw [Bool.and_eq_true, Bool.and_eq_true, decide_eq_true_eq, Bool.not_eq_true'] at h2
      obtain ⟨⟨hij, hfj⟩, h3⟩ := h2
      cases ho : ops[j]? with
      | none => rw [ho] at h3; cases h3
      | some o =>
        rw [ho] at h3
        simp only [List.any_eq_true, Bool.and_eq_true, beq_iff_eq] at h3
        obtain ⟨e', he, rfl, hb⟩ := h3
        exact hcl j o ho (ih j (by omega) (by omega) hfj) e' he hb
theorem Cl.set {ops : List Oper} {l : Array Bool} {j : Nat} {o : Oper} (h : Cl ops l) (ho : ops[j]? = some o) (hd : ∀ e ∈ o.after.toList, Region.binds .any e = true → l.getD e.on false = true) (hz : l.size = ops.length) : Cl ops (l.setIfInBounds j true) := by
  intro i o' hi hl e he hb
  have key : l.getD e.on false = true := by
    by_cases hij : i = j
    · subst hij
      rw [ho] at hi
      cases hi
      exact hd e he hb
    · rw [MonoU.getD_set_ne (fun e => hij e.symm)] at hl
      exact h i o' hi hl e he hb
  by_cases hj : j = e.on
  · rw [hj, MonoU.getD_set_same]
    have := key
    simp only [Array.getD_eq_getD_getElem?] at this
    cases hx : l[e.on]? with
    | none => rw [hx] at this; cases this
    | some b => exact (Array.getElem?_eq_some_iff.1 hx).1
  · rw [MonoU.getD_set_ne hj]; exact key
/-- What is known, by which operations have run. -/
structure J (ops : List Oper) (n : Nat) (sp : List Sp) (w0 : World) (Mid Fin : Value → World → Prop) (l : Array Bool) (u : Nat → Value) (x : World) : Prop where
  cl : Cl ops l
  head : l.getD n false = false → Below w0.heap.size w0 x ∧ ∀ i s, i < n → l.getD i false = true → sp[i]? = some s → s.R.R (pick (sp.map Sp.v) u i) x
  mid : l.getD n false = true → l.getD (ops.length - 1) false = false → Mid (u n) x
  fin : l.getD (ops.length - 1) false = true → Fin (u n) x
  ord : l.getD (ops.length - 1) false = true → l.getD n false = true
theorem sp_v {sp : List Sp} {i : Nat} {s : Sp} (h : sp[i]? = some s) : (sp.map Sp.v).getD i none = s.v := by simp [h]
theorem sp_R {sp : List Sp} {i : Nat} {s : Sp} (h : sp[i]? = some s) : (sp.map Sp.R)[i]? = some s.R := by simp [h]
theorem sp_W {sp : List Sp} {i : Nat} {s : Sp} (h : sp[i]? = some s) : (sp.map Sp.W)[i]? = some s.W := by simp [h]
theorem depAll {ds : List (Option Nat)} {Rs : List Prp} {a : Act} {w : World} : ∀ (es : List Edge), (∀ e ∈ es, Region.binds .any e = true → ∀ d R, ds[e.on]? = some (some d) → Rs[e.on]? = some R → R.R (a.eval (.tmp d)) w) → DepFacts ds Rs a w es
  | [], _ => trivial
  | e :: es, h => by
    refine ⟨fun hb => ?_, depAll es (fun e' he' => h e' (List.mem_cons_of_mem _ he'))⟩
    have := h e (List.mem_cons_self ..) hb
    split
    · next d R hd hR => exact this d R hd hR
    · trivial
theorem heads_at {P : Program} {ds : List (Option Nat)} {sp : List Sp} {a0 : Act} {w0 : World} {fs : List Nat} : ∀ {os : List Oper} {ss : List Sp} {k : Nat}, HeadGoals P ds sp a0 w0 fs k os ss → ∀ (i : Nat) (o : Oper), os[i]? = some o → ∃ s, ss[i]? = some s ∧ (if fs.contains (k + i) = true then FloatGoal P ds sp a0 o s else HeadGoal P ds sp a0 w0 o s)
  | [], _, _, _, i, o, h => by simp at h
  | o' :: os, [], _, h, _, _, _ => h.elim
  | o' :: os, s :: ss, k, h, i, o, ho => by
    cases i with
    | zero => simp at ho; subst ho; exact ⟨s, rfl, h.1⟩
    | succ i =>
      obtain ⟨s', h1, h2⟩ := heads_at h.2 i o (by simpa using ho)
      rw [show k + 1 + i = k + (i + 1) from by omega] at h2
      exact ⟨s', by simpa using h1, h2⟩
theorem floats_at {P : Program} {ds : List (Option Nat)} {sp : List Sp} {a0 : Act} : ∀ {os : List Oper} {ss : List Sp}, FloatGoals P ds sp a0 os ss → ∀ (i : Nat) (o : Oper), os[i]? = some o → ∃ s, ss[i]? = some s ∧ FloatGoal P ds sp a0 o s
  | [], _, _, i, o, h => by simp at h
  | o' :: os, [], h, _, _, _ => h.elim
  | o' :: os, s :: ss, h, i, o, ho => by
    cases i with
    | zero => simp at ho; subst ho; exact ⟨s, rfl, h.1⟩
    | succ i => obtain ⟨s', h1, h2⟩ := floats_at h.2 i o (by simpa using ho); exact ⟨s', by simpa using h1, h2⟩
theorem pick_ne' {vs : List (Option Value)} {u : Nat → Value} {i j : Nat} {v : Value} (h : i ≠ j) : pick vs (upd u j v) i = pick vs u i := pick_ne h
section
variable {P : Program}
/-- THE LAW. -/
theorem wp_region_A (fs : List Nat) {id : Nat} {ops : List Oper} {Q : Exit → Act → World → Prop} {a0 : Act} {w0 : World} (n d : Nat) (ds : List (Option Nat)) (sp : List Sp) (Mid Fin : Value → World → Prop) (hm : P.follows .mixedOrders = true)
    (hf : formB ops ds a0.tmps.size = true) (hgd : (ops.all fun o => o.guard.isNone) = true) (hn : n + 1 < ops.length) (hlen : sp.length = ops.length) (hdn : ds[n]? = some (some d)) (hspn : sp[n]? = some (.prp anyV)) (hspl : sp[ops.length - 1]? = some (.prp anyV))
    (hcov : coverB ops n fs = true) (hcovl : coverB ops (ops.length - 1) [] = true)
    (oa ol : Oper) (hoa : ops[n]? = some oa) (hol : ops[ops.length - 1]? = some ol)
    (hhead : HeadGoals P ds sp a0 w0 fs 0 (ops.take n) sp) (happ' : AppGoal P ds sp a0 w0 Mid oa)
    (hfl : FloatGoals P ds sp a0 ((ops.drop (n + 1)).dropLast) (sp.drop (n + 1))) (hlast' : LastGoal P ds sp a0 Mid Fin d ol)
    (hfin : ∀ v w, Fin v w → ∀ u, Q .normal (ds.zipIdx.foldl (fun a x => a.put x.1 (pick (sp.map Sp.v) u x.2)) a0) w) : (Code.region id ops.toArray true).wp P Q a0 w0 := by
  have happ : ∀ o, ops[n]? = some o → AppGoal P ds sp a0 w0 Mid o := fun o ho => by rw [hoa] at ho; cases ho; exact happ'
  have hlast : ∀ o, ops[ops.length - 1]? = some o → LastGoal P ds sp a0 Mid Fin d o := fun o ho => by rw [hol] at ho; cases ho; exact hlast'
  obtain ⟨L, hL⟩ : ∃ L, ops.length - 1 = L := ⟨_, rfl⟩
  have hLn : n < L := by omega
  have goals : ∀ (j : Nat) (o : Oper), ops[j]? = some o → MonoU.OpGoal P ops ds (sp.map Sp.v) (J ops n sp w0 Mid Fin) a0 j o := by
    intro j o ho l u a x hJ hz hjn hdep hsame hval hfresh
    have hjl := getD_false hjn
    have hjlt : j < ops.length := (List.getElem?_eq_some_iff.1 ho).1
    have hcl' := hJ.cl.set ho hdep hz
    have hpr : ∀ {R : Prp} {e : Edge} {q : Nat}, e ∈ o.after.toList → Region.binds .any e = true → ds[e.on]? = some (some q) → a.eval (.tmp q) = pick (sp.map Sp.v) u e.on := fun he hb hq => hval _ _ (hdep _ he hb) hq
    have dfW : DepFacts ds (sp.map Sp.W) a x o.after.toList := depAll _ fun e he hb q R hq hR => by
      rw [hval _ _ (hdep e he hb) hq]
      rw [List.getElem?_map] at hR
      cases hs : sp[e.on]? with
      | none => rw [hs] at hR; cases hR
      | some s =>
        rw [hs] at hR
        cases hR
        cases s with
        | prp R => trivial
        | val c =>
          show pick _ u e.on = c
          unfold pick
          rw [sp_v hs]
          rfl
    have after : ∀ e ∈ o.after.toList, Region.binds .any e = true → e.on < j := by
      intro e he hb
      simp only [formB, Bool.and_eq_true, beq_iff_eq, decide_eq_true_eq, List.all_eq_true] at hf
      obtain ⟨⟨_, f4⟩, _⟩ := hf
      have h4 := f4 (o, j) (by rw [List.mem_iff_getElem?]; exact ⟨j, by simp [ho]⟩)
      simpa [hb] using h4 e (by simpa using he)
    -- those that are told by their slots alone
    have float : ∀ s, sp[j]? = some s → FloatGoal P ds sp a0 o s → j ≠ n → j ≠ ops.length - 1 → o.wp P a x (fun a' w' => ∃ v, a' = a.put o.dst v ∧ known (sp.map Sp.v) j v ∧ J ops n sp w0 Mid Fin (l.setIfInBounds j true) (upd u j v) w') (fun _ _ _ => False) := by
      intro s hs hg hnj hjL
      have un : ∀ v, upd u j v n = u n := fun v => by unfold upd; rw [if_neg (fun e => hnj e.symm)]
      obtain ⟨c, rfl, hw⟩ := hg a x hsame dfW
      refine Oper.wp_mono (fun a' w' ⟨e, e'⟩ => ⟨c, e, fun c' hc => ?_, ?_⟩) hw
      · rw [sp_v hs] at hc; cases hc; rfl
      · subst e'
        have fL : (l.setIfInBounds j true).getD (ops.length - 1) false = l.getD (ops.length - 1) false := MonoU.getD_set_ne hjL
        have fn : (l.setIfInBounds j true).getD n false = l.getD n false := MonoU.getD_set_ne hnj
        refine ⟨hcl', fun h => ?_, fun h h' => ?_, fun h => ?_, fun h => ?_⟩
        · rw [fn] at h
          obtain ⟨hb0, hfacts⟩ := hJ.head h
          refine ⟨hb0, fun i s' hi hl hs' => ?_⟩
          by_cases hij : i = j
          · subst hij
            rw [hs] at hs'
            cases hs'
            exact pick_same (fun c' hc => by rw [sp_v hs] at hc; cases hc; rfl)
          · rw [MonoU.getD_set_ne (fun e => hij e.symm)] at hl
            rw [pick_ne' hij]
            exact hfacts i s' hi hl hs'
        · rw [fn] at h; rw [fL] at h'; rw [un]; exact hJ.mid h h'
        · rw [fL] at h; rw [un]; exact hJ.fin h
        · rw [fL] at h; rw [fn]; exact hJ.ord h
    rcases Nat.lt_trichotomy j n with hlt | heq | hgt
    · -- ahead of n
      obtain ⟨s, hs, hg⟩ := heads_at hhead j o (by rw [List.getElem?_take]; simp [hlt, ho])
      rw [Nat.zero_add] at hg
      by_cases hfj : fs.contains j = true
      · rw [if_pos hfj] at hg
        exact float s hs hg (by omega) (by omega)
      rw [if_neg hfj] at hg
      have hfj' : fs.contains j = false := by simpa using hfj
      have hnl : l.getD n false = false := by
        cases hq : l.getD n false with
        | false => rfl
        | true => have := cover hcov hJ.cl hq n j (by omega) (by omega) hfj'; rw [hjl] at this; cases this
      have hLl : l.getD (ops.length - 1) false = false := by
        cases hq : l.getD (ops.length - 1) false with
        | false => rfl
        | true => rw [hJ.ord hq] at hnl; cases hnl
      obtain ⟨hb0, hfacts⟩ := hJ.head hnl
      have df : DepFacts ds (sp.map Sp.R) a x o.after.toList := depAll _ fun e he hb q R hq hR => by
        rw [hval _ _ (hdep e he hb) hq]
        rw [List.getElem?_map] at hR
        cases hs' : sp[e.on]? with
        | none => rw [hs'] at hR; cases hR
        | some s' =>
          rw [hs'] at hR
          cases hR
          exact hfacts e.on s' (by have := after e he hb; omega) (hdep e he hb) hs'
      refine Oper.wp_mono (fun a' w' ⟨v, e, hb, hv⟩ => ⟨v, e, fun c hc => ?_, ?_⟩) (hg a x hb0 hsame df)
      · rw [sp_v hs] at hc
        cases s with
        | prp R => cases hc
        | val c' => cases hc; exact hv
      · have hne : n ≠ j := by omega
        refine ⟨hcl', fun _ => ⟨hb0.trans (hb.mono hb0.size), fun i s' hi hl hs' => ?_⟩, fun h => ?_, fun h => ?_, fun h => ?_⟩
        · by_cases hij : i = j
          · subst hij
            rw [hs] at hs'
            cases hs'
            have : pick (sp.map Sp.v) (upd u i v) i = v := pick_same (fun c hc => by
              rw [sp_v hs] at hc
              cases s with
              | prp R => cases hc
              | val c' => cases hc; exact hv)
            rw [this]
            exact hv
          · rw [pick_ne' hij]
            rw [MonoU.getD_set_ne (fun e => hij e.symm)] at hl
            exact s'.R.stays _ _ _ (hfacts i s' hi hl hs') hb
        · rw [MonoU.getD_set_ne (Ne.symm hne), hnl] at h; cases h
        · rw [MonoU.getD_set_ne (by omega), hLl] at h; cases h
        · rw [MonoU.getD_set_ne (by omega), hLl] at h; cases h
    · -- n itself
      subst heq
      have hLl : l.getD (ops.length - 1) false = false := by
        cases hq : l.getD (ops.length - 1) false with
        | false => rfl
        | true => rw [hJ.ord hq] at hjl; cases hjl
      obtain ⟨hb0, hfacts⟩ := hJ.head hjl
      have df : DepFacts ds (sp.map Sp.R) a x o.after.toList := depAll _ fun e he hb q R hq hR => by
        rw [hval _ _ (hdep e he hb) hq]
        rw [List.getElem?_map] at hR
        cases hs' : sp[e.on]? with
        | none => rw [hs'] at hR; cases hR
        | some s' =>
          rw [hs'] at hR
          cases hR
          exact hfacts e.on s' (by have := after e he hb; omega) (hdep e he hb) hs'
      refine Oper.wp_mono (fun a' w' ⟨v, e, hv⟩ => ⟨v, e, fun c hc => ?_, ?_⟩) (happ o ho a x hb0 hsame df)
      · rw [sp_v hspn] at hc; cases hc
      · have t : (l.setIfInBounds j true).getD j false = true := MonoU.getD_set_same (by omega)
        refine ⟨hcl', fun h => ?_, fun _ _ => ?_, fun h => ?_, fun _ => t⟩
        · rw [t] at h; cases h
        · have : upd u j v j = v := by simp [upd]
          rw [this]; exact hv
        · rw [MonoU.getD_set_ne (by omega), hLl] at h; cases h
    · -- behind n
      have hnj : j ≠ n := by omega
      have un : ∀ v, upd u j v n = u n := fun v => by unfold upd; rw [if_neg (fun e => hnj e.symm)]
      by_cases hjL : j = L
      · -- the last
        subst hjL
        subst hL
        have hnl : l.getD n false = true := by
          -- everything ahead of the last one has run: by the cover of the last one, taken with it as run
          have hcl2 := hcl'
          have t : (l.setIfInBounds (ops.length - 1) true).getD (ops.length - 1) false = true := MonoU.getD_set_same (by omega)
          have := cover hcovl hcl2 t (ops.length - 1) n (by omega) (by omega) rfl
          rwa [MonoU.getD_set_ne hnj] at this
        have hmid := hJ.mid hnl hjl
        have hen : a.eval (.tmp d) = u n := by
          rw [hval n d hnl hdn]
          unfold pick
          rw [sp_v hspn]
          rfl
        refine Oper.wp_mono (fun a' w' ⟨v, e, hv⟩ => ⟨v, e, fun c hc => ?_, ?_⟩) (hlast o ho a x (u n) hmid hen hsame dfW)
        · rw [sp_v hspl] at hc; cases hc
        · have t : (l.setIfInBounds (ops.length - 1) true).getD (ops.length - 1) false = true := MonoU.getD_set_same (by omega)
          have t2 : (l.setIfInBounds (ops.length - 1) true).getD n false = true := by rw [MonoU.getD_set_ne hnj]; exact hnl
          refine ⟨hcl', fun h => ?_, fun _ h => ?_, fun _ => ?_, fun _ => t2⟩
          · rw [t2] at h; cases h
          · rw [t] at h; cases h
          · rw [un]; exact hv
      · -- between
        have hpos : ((ops.drop (n + 1)).dropLast)[j - (n + 1)]? = some o := by
          rw [List.getElem?_dropLast, List.getElem?_drop, show n + 1 + (j - (n + 1)) = j from by omega, if_pos (by rw [List.length_drop]; omega)]
          exact ho
        obtain ⟨s, hs, hg⟩ := floats_at hfl (j - (n + 1)) o hpos
        rw [List.getElem?_drop, show n + 1 + (j - (n + 1)) = j from by omega] at hs
        exact float s hs hg hnj (by omega)
  have goals' : ∀ {os : List Oper} {k : Nat}, (∀ i o, os[i]? = some o → ops[k + i]? = some o) → MonoU.OpGoals P ops ds (sp.map Sp.v) (J ops n sp w0 Mid Fin) a0 k os := by
    intro os
    induction os with
    | nil => intro k _; exact trivial
    | cons o os ih =>
      intro k h
      exact ⟨goals k o (by have := h 0 o rfl; simpa using this), ih (fun i o' ho' => by rw [show k + 1 + i = k + (i + 1) from by omega]; exact h (i + 1) o' (by simpa using ho'))⟩
  have hrep : ∀ i, (Array.replicate ops.length false).getD i false = false := fun i => by
    simp only [Array.getD_eq_getD_getElem?, Array.getElem?_replicate]
    split <;> rfl
  have hrep1 : ∀ i, i < ops.length → (Array.replicate ops.length true).getD i false = true := fun i hi => by
    simp only [Array.getD_eq_getD_getElem?, Array.getElem?_replicate, if_pos hi]
    rfl
  refine MonoU.wp_region_U ds (sp.map Sp.v) (J ops n sp w0 Mid Fin) hm hf hgd (fun _ => undef) ?_ (goals' (fun i o h => by rwa [Nat.zero_add])) ?_
  · refine ⟨fun j o _ h => ?_, fun _ => ⟨(Below.refl _ _).drew, fun i s _ h => ?_⟩, fun h => ?_, fun h => ?_, fun h => ?_⟩
    all_goals (rw [hrep] at h; cases h)
  · intro u w hJ
    exact hfin _ w (hJ.fin (hrep1 _ (by omega))) u
end
theorem float_val {P : Program} {o : Oper} {a : Act} {w : World} {c : Value} {Q : Exit → Act → World → Prop} (hrun : (execOp a.eval o).run P w = .ok (.value c) w) : o.wp P a w (fun a' w' => a' = a.put o.dst c ∧ w' = w) Q := by
  unfold Oper.wp
  rw [hrun]
  exact ⟨rfl, rfl⟩
end Go.Proofs.Ytjfponhdlfhmbaa.MonoA
