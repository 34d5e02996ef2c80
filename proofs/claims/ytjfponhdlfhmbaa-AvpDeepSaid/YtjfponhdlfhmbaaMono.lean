/-
  A REGION THAT DRAWS ITS ORDER, WHOSE OPERATIONS LEAVE OLD MEMORY ALONE (they may make memory): EACH OPERATION IS SHOWN ONCE, whatever the order. Of each operation it is said what its slot holds (a property that stands while memory only grows); of the operations that it waits for it may use what their slots hold. No program is looked into here.
-/
import Derived.Test.YtjfponhdlfhmbaaFrame
import Derived.Orders
namespace Go.Proofs.Ytjfponhdlfhmbaa.Mono
open Go.RowKit
set_option linter.unusedVariables false

/-- A property of a slot's value that stands while memory only grows. -/
structure Prp where
  R : Value → World → Prop
  stays : ∀ v w w', R v w → Below w.heap.size w w' → R v w'

/-- The slot holds this very value. -/
def isV (c : Value) : Prp := ⟨fun v _ => v = c, fun _ _ _ h _ => h⟩
/-- Nothing is said. -/
def anyV : Prp := ⟨fun _ _ => True, fun _ _ _ h _ => h⟩

section
variable (P : Program)

/-- What the slots of the operations hold that an operation waits for. -/
def DepFacts (ds : List (Option Nat)) (Rs : List Prp) (a : Act) (w : World) : List Edge → Prop
  | [] => True
  | e :: es => (Region.binds .any e = true → match ds[e.on]?, Rs[e.on]? with | some (some d), some R => R.R (a.eval (.tmp d)) w | _, _ => True) ∧ DepFacts ds Rs a w es

/-- Does the operation come up, by its guard's slot? -/
def want (ds : List (Option Nat)) (o : Oper) (a : Act) : Bool :=
  match o.guard with
  | none => true
  | some (g, b) => match ds[g]? with
    | some (some d) => (match a.eval (.tmp d) with | .bool c => c == b | _ => false)
    | _ => false

/-- What is to be shown of one operation. -/
def OpGoal (ds : List (Option Nat)) (Rs : List Prp) (a0 : Act) (w0 : World) (o : Oper) (R : Prp) : Prop :=
  ∀ (a : Act) (w : World), Below w0.heap.size w0 w → (∀ t, some t ∉ ds → a.eval (.tmp t) = a0.eval (.tmp t)) → DepFacts ds Rs a w o.after.toList →
    if want ds o a = true then o.wp P a w (fun a' w' => ∃ v, a' = a.put o.dst v ∧ Below w.heap.size w w' ∧ R.R v w') (fun _ _ _ => False) else R.R undef w

def OpGoals (ds : List (Option Nat)) (Rs : List Prp) (a0 : Act) (w0 : World) : List Oper → List Prp → Prop
  | o :: os, R :: rs => OpGoal P ds Rs a0 w0 o R ∧ OpGoals ds Rs a0 w0 os rs
  | [], [] => True
  | _, _ => False

/-- What is behind the region: of all slots it is known what they hold. -/
def Fin (w : World) (K : Act → Prop) : List (Option Nat) → List Prp → Act → Prop
  | d :: ds, R :: Rs, a => ∀ v, R.R v w → Fin w K ds Rs (a.put d v)
  | _, _, a => K a

/-- The region's form: its slots are apart, they are there, each operation waits for earlier ones alone. -/
def formB (ops : List Oper) (ds : List (Option Nat)) (size : Nat) : Bool :=
  (ops.map (·.dst) == ds) && decide ((ds.filterMap id).Nodup) && (ds.filterMap id).all (· < size) &&
  (ops.zipIdx.all fun (o, i) => o.after.toList.all fun e => !Region.binds .any e || decide (e.on < i)) && ops.all fun o => match o.guard with | none => true | some (g, _) => o.after.toList.any fun e => e.on == g
end

section
variable {P : Program}

theorem eval_tmp (a : Act) (t : Nat) : a.eval (.tmp t) = a.tmps.getD t undef := rfl

theorem opGoals_at {ds : List (Option Nat)} {Rs : List Prp} {a0 : Act} {w0 : World} : ∀ {os : List Oper} {rs : List Prp}, OpGoals P ds Rs a0 w0 os rs → os.length = rs.length ∧
    ∀ (j : Nat) (o : Oper) (R : Prp), os[j]? = some o → rs[j]? = some R → OpGoal P ds Rs a0 w0 o R
  | [], [], _ => ⟨rfl, fun j o R h => by simp at h⟩
  | [], _ :: _, h => h.elim
  | _ :: _, [], h => h.elim
  | o :: os, R :: rs, h => by
    obtain ⟨h1, h2⟩ := opGoals_at h.2
    refine ⟨by simp [h1], fun j o' R' ho hR => ?_⟩
    cases j with
    | zero =>
      simp at ho hR
      subst ho; subst hR
      exact h.1
    | succ j => exact h2 j o' R' (by simpa using ho) (by simpa using hR)

/-- All that is kept while the region runs. -/
structure Inv (ds : List (Option Nat)) (Rs : List Prp) (a0 : Act) (w0 : World) (listed : Array Bool) (a : Act) (w : World) : Prop where
  below : Below w0.heap.size w0 w
  size : a.tmps.size = a0.tmps.size
  defers : a.defers = a0.defers
  same : ∀ t, some t ∉ ds → a.tmps[t]? = a0.tmps[t]?
  holds : ∀ (i : Nat) (R : Prp), listed.getD i false = true → Rs[i]? = some R → ∃ v, R.R v w ∧ ∀ d, ds[i]? = some (some d) → a.eval (.tmp d) = v

theorem put_size (a : Act) (d : Option Nat) (v : Value) : (a.put d v).tmps.size = a.tmps.size := by cases d <;> simp [Act.put]
theorem put_defers (a : Act) (d : Option Nat) (v : Value) : (a.put d v).defers = a.defers := by cases d <;> simp [Act.put]
theorem put_ne (a : Act) (d : Option Nat) (v : Value) (t : Nat) (h : d ≠ some t) : (a.put d v).tmps[t]? = a.tmps[t]? := by
  cases d with
  | none => rfl
  | some d =>
    have : d ≠ t := fun e => h (by rw [e])
    simp [Act.put, Array.getElem?_setIfInBounds_ne this]
theorem eval_put_ne (a : Act) (d : Option Nat) (v : Value) (t : Nat) (h : d ≠ some t) : (a.put d v).eval (.tmp t) = a.eval (.tmp t) := by
  have := put_ne a d v t h
  simp [Act.eval, Array.getD_eq_getD_getElem?, this]
theorem eval_put_same (a : Act) (d : Nat) (v : Value) (h : d < a.tmps.size) : (a.put (some d) v).eval (.tmp d) = v := by
  simp [Act.eval, Act.put, Array.getD_eq_getD_getElem?, h]

theorem wp_weaken {o : Oper} {a : Act} {w : World} {K : Act → World → Prop} {Q : Exit → Act → World → Prop} (h : o.wp P a w K (fun _ _ _ => False)) : o.wp P a w K Q := by
  unfold Oper.wp at *
  generalize (execOp a.eval o).run P w = r at *
  cases r with
  | ok n w' =>
    cases n <;> simp only [Oper.upon] at h ⊢ <;>
      first
        | exact h
        | exact Calls.mono h (fun e w'' he => by
            cases e
            · exact he
            · exact he.elim
            · obtain ⟨_, _, he⟩ := he; exact he.elim)
  | halt x w' => cases x <;> simp only [Oper.upon] at h ⊢

theorem depFacts_of {ds : List (Option Nat)} {Rs : List Prp} {a0 : Act} {w0 : World} {listed : Array Bool} {a : Act} {w : World} (h : Inv ds Rs a0 w0 listed a w) :
    ∀ (es : List Edge), (∀ e ∈ es, Region.binds .any e = true → listed.getD e.on false = true) → DepFacts ds Rs a w es
  | [], _ => trivial
  | e :: es, hl => by
    refine ⟨fun hbe => ?_, depFacts_of h es (fun x hx => hl x (List.mem_cons_of_mem _ hx))⟩
    split
    · rename_i d R h1 h2
      obtain ⟨v, h3, h4⟩ := h.holds _ _ (hl e (List.mem_cons_self ..) hbe) h2
      rw [h4 d h1]
      exact h3
    · trivial

theorem binds_any_of {e : Edge} (_h : True) : Region.binds .any e = true ∨ Region.binds .any e = false := by cases Region.binds .any e <;> simp

/-- THE STEP: operation j comes up. -/
theorem step_op {ops : List Oper} {ds : List (Option Nat)} {Rs : List Prp} {a0 : Act} {w0 : World} {Q : Exit → Act → World → Prop} {listed : Array Bool} {a : Act} {w : World} {K : Act → World → Prop}
    (hf : formB ops ds a0.tmps.size = true) (hg : OpGoals P ds Rs a0 w0 ops Rs) (hsz : listed.size = ops.length)
    (h : Inv ds Rs a0 w0 listed a w) {j : Nat} (hj : j ∈ Region.ready .any ops.toArray listed)
    (hK : ∀ a' w', Inv ds Rs a0 w0 (listed.setIfInBounds j true) a' w' → K a' w') : wpOp P ops.toArray Q j K a w := by
  obtain ⟨hjun, o, ho, hall⟩ := mem_ready.1 hj
  have ho' : ops[j]? = some o := by simpa using ho
  simp only [formB, Bool.and_eq_true, beq_iff_eq, decide_eq_true_eq, List.all_eq_true] at hf
  obtain ⟨⟨⟨⟨f1, f2⟩, f3⟩, f4⟩, f5⟩ := hf
  obtain ⟨hlen, hgo⟩ := opGoals_at hg
  have hjlt : j < ops.length := (List.getElem?_eq_some_iff.1 ho').1
  obtain ⟨R, hR⟩ : ∃ R, Rs[j]? = some R := ⟨Rs[j]'(by omega), by simp⟩
  have hdj : ds[j]? = some o.dst := by rw [← f1]; simp [ho']
  have hom : o ∈ ops := List.mem_of_getElem? ho'
  have hdeps : ∀ e ∈ o.after.toList, Region.binds .any e = true → listed.getD e.on false = true := fun e he hbe => hall e (by simpa using he) hbe
  have goal := hgo j o R ho' hR a w h.below (fun t ht => by simp [Act.eval, Array.getD_eq_getD_getElem?, h.same t ht]) (depFacts_of h _ hdeps)
  have hwant : Region.wanted o (yielded ops.toArray a.tmps) = want ds o a := by
    unfold Region.wanted want
    cases hgd : o.guard with
    | none => rfl
    | some gb =>
      obtain ⟨g, b⟩ := gb
      simp only
      have h5 := f5 o hom
      rw [hgd] at h5
      simp only [List.any_eq_true, beq_iff_eq] at h5
      obtain ⟨e, he, heg⟩ := h5
      unfold yielded
      have hdg : ds[g]? = (ops[g]?).map (·.dst) := by rw [← f1]; simp
      cases hog : ops[g]? with
      | none => rw [hog] at hdg; simp [hog, hdg]
      | some og =>
        rw [hog] at hdg
        simp only [Option.map_some] at hdg
        cases hd : og.dst with
        | none => rw [hd] at hdg; simp [hog, hdg, hd]
        | some d =>
          rw [hd] at hdg
          simp only [hog, hdg, hd, List.getElem?_toArray, Option.bind_some, Act.eval, Array.getD_eq_getD_getElem?]
          cases hv : a.tmps[d]? with
          | none => simp [undef]
          | some v => cases v <;> simp
  have nodup : ∀ (i d : Nat), i ≠ j → ds[i]? = some (some d) → o.dst ≠ some d := by
    intro i d hij hi e
    rw [e] at hdj
    have key : ∀ (l : List (Option Nat)) (i j d : Nat), (l.filterMap id).Nodup → l[i]? = some (some d) → l[j]? = some (some d) → i = j := by
      intro l
      induction l with
      | nil => intro i j d _ h; simp at h
      | cons x l ih =>
        intro i j d hn hi hj
        cases i with
        | zero =>
          cases j with
          | zero => rfl
          | succ j =>
            simp at hi hj
            subst hi
            simp only [List.filterMap_cons, id] at hn
            rw [List.nodup_cons] at hn
            exact absurd (show d ∈ l.filterMap id from List.mem_filterMap.2 ⟨some d, List.mem_of_getElem? hj, rfl⟩) hn.1
        | succ i =>
          cases j with
          | zero =>
            simp at hi hj
            subst hj
            simp only [List.filterMap_cons, id] at hn
            rw [List.nodup_cons] at hn
            exact absurd (show d ∈ l.filterMap id from List.mem_filterMap.2 ⟨some d, List.mem_of_getElem? hi, rfl⟩) hn.1
          | succ j =>
            have hn' : (l.filterMap id).Nodup := by
              cases x with
              | none => simpa using hn
              | some x => simp only [List.filterMap_cons, id] at hn; exact (List.nodup_cons.1 hn).2
            rw [ih i j d hn' (by simpa using hi) (by simpa using hj)]
    exact hij (key ds i j d f2 hi hdj)
  have next : ∀ v w', Below w.heap.size w w' → R.R v w' → Inv ds Rs a0 w0 (listed.setIfInBounds j true) (a.put o.dst v) w' := by
    intro v w' hbw hRv
    refine ⟨Frame.ext h.below hbw, (put_size ..).trans h.size, (put_defers ..).trans h.defers, fun t ht => ?_, fun i R' hi hR' => ?_⟩
    · rw [put_ne _ _ _ _ (fun e => ht (by rw [← e]; exact List.mem_of_getElem? hdj))]
      exact h.same t ht
    · by_cases hij : i = j
      · subst hij
        rw [hR] at hR'
        cases hR'
        refine ⟨v, hRv, fun d hd => ?_⟩
        rw [hdj] at hd
        simp at hd
        rw [hd, eval_put_same _ _ _ (by
          rw [h.size]
          have := f3 d (List.mem_filterMap.2 ⟨some d, by rw [← hd]; exact List.mem_of_getElem? hdj, rfl⟩)
          simpa using this)]
      · have hi' : listed.getD i false = true := by
          simp only [Array.getD_eq_getD_getElem?] at hi ⊢
          rwa [Array.getElem?_setIfInBounds_ne (Ne.symm hij)] at hi
        obtain ⟨v', h1, h2⟩ := h.holds i R' hi' hR'
        exact ⟨v', R'.stays _ _ _ h1 hbw, fun d hd => by rw [eval_put_ne _ _ _ _ (nodup i d hij hd)]; exact h2 d hd⟩
  unfold wpOp
  simp only [ho]
  rw [hwant]
  split
  · rename_i hw
    rw [if_pos hw] at goal
    exact .inl (Oper.wp_mono (fun a' w' ⟨v, e, hbw, hRv⟩ => by rw [e]; exact hK _ _ (next v w' hbw hRv)) (wp_weaken goal))
  · rename_i hw
    rw [if_neg hw] at goal
    exact hK _ _ (next undef w (Below.refl _ _) goal)

theorem count_zero {listed : Array Bool} (h : listed.toList.count false = 0) (i : Nat) (hi : i < listed.size) : listed.getD i false = true := by
  have hn : false ∉ listed.toList := List.count_eq_zero.1 h
  have : listed[i] ∈ listed.toList := by simp
  cases hb : listed[i] with
  | true => simp [Array.getD_eq_getD_getElem?, hi, hb]
  | false => rw [hb] at this; exact absurd this hn

theorem count_set {listed : Array Bool} {j : Nat} (hj : listed.getD j true = false) : (listed.setIfInBounds j true).toList.count false + 1 = listed.toList.count false := by
  have hlt : j < listed.size := by
    rcases Nat.lt_or_ge j listed.size with h | h
    · exact h
    · simp [Array.getD_eq_getD_getElem?, Array.getElem?_eq_none h] at hj
  have hv : listed[j] = false := by simpa [Array.getD_eq_getD_getElem?, hlt] using hj
  have hm : false ∈ listed.toList := by rw [← hv]; simp
  have hp : 0 < listed.toList.count false := List.count_pos_iff.2 hm
  rw [Array.toList_setIfInBounds, List.count_set (by simpa using hlt)]
  have hv' : listed.toList[j]'(by simpa using hlt) = false := by simpa using hv
  rw [hv']
  rw [if_pos (by rfl), if_neg (by simp)]
  omega

theorem wpAny_mono {ops : List Oper} {ds : List (Option Nat)} {Rs : List Prp} {a0 : Act} {w0 : World} {Q : Exit → Act → World → Prop}
    (hf : formB ops ds a0.tmps.size = true) (hg : OpGoals P ds Rs a0 w0 ops Rs)
    (hQ : ∀ listed a w, listed.size = ops.length → (∀ i, i < ops.length → listed.getD i false = true) → Inv ds Rs a0 w0 listed a w → Q .normal a w) :
    ∀ (fuel : Nat) (listed : Array Bool) (a : Act) (w : World), listed.size = ops.length → listed.toList.count false ≤ fuel → Inv ds Rs a0 w0 listed a w → wpAny P .any ops.toArray Q fuel listed a w
  | 0, listed, a, w, hsz, hc, h => by
    have hall : ∀ i, i < ops.length → listed.getD i false = true := fun i hi => count_zero (by omega) i (by omega)
    refine ⟨?_, hQ listed a w hsz hall h⟩
    cases hr : Region.ready .any ops.toArray listed with
    | nil => rfl
    | cons j l =>
      have hj : j ∈ Region.ready .any ops.toArray listed := by rw [hr]; simp
      obtain ⟨h1, o, ho, _⟩ := mem_ready.1 hj
      have hlt : j < ops.length := by simpa using (Array.getElem?_eq_some_iff.1 ho).1
      have h2 := hall j hlt
      simp [Array.getD_eq_getD_getElem?, show j < listed.size by omega] at h1 h2
      rw [h1] at h2
      cases h2
  | fuel + 1, listed, a, w, hsz, hc, h => by
    refine ⟨fun hr => hQ listed a w hsz (fun i => ?_) h, fun j hj => ?_⟩
    · induction i using Nat.strongRecOn with
      | _ i ih =>
        intro hi
        have hlt : i < listed.size := by omega
        cases hb' : listed[i] with
        | true => simp [Array.getD_eq_getD_getElem?, hlt, hb']
        | false =>
          exfalso
          have : i ∈ Region.ready .any ops.toArray listed := by
            refine mem_ready.2 ⟨by simp [Array.getD_eq_getD_getElem?, hlt, hb'], ops[i], by simp, fun e he hbe => ?_⟩
            simp only [formB, Bool.and_eq_true, beq_iff_eq, decide_eq_true_eq, List.all_eq_true] at hf
            obtain ⟨⟨_, f4⟩, _⟩ := hf
            have h4 := f4 (ops[i], i) (by rw [List.mem_iff_getElem?]; exact ⟨i, by simp⟩)
            have h5 : e.on < i := by simpa [hbe] using h4 e (by simpa using he)
            exact ih e.on h5 (by omega)
          rw [hr] at this
          cases this
    · have h1 := (mem_ready.1 hj).1
      exact step_op hf hg hsz h hj (fun a' w' h' => wpAny_mono hf hg hQ fuel _ a' w' (by simpa using hsz) (by have := count_set h1; omega) h')

theorem fin_at {w : World} {K : Act → Prop} : ∀ {ds : List (Option Nat)} {Rs : List Prp} {a : Act} (u : Nat → Value), ds.length = Rs.length → Fin w K ds Rs a →
    (∀ (i : Nat) (R : Prp), Rs[i]? = some R → R.R (u i) w) → K ((ds.zipIdx.foldl (fun a x => a.put x.1 (u x.2)) a))
  | [], [], a, u, _, h, _ => h
  | [], _ :: _, _, _, hl, _, _ => by simp at hl
  | _ :: _, [], _, _, hl, _, _ => by simp at hl
  | d :: ds, R :: Rs, a, u, hl, h, hu => by
    have h1 := h (u 0) (hu 0 R rfl)
    have h2 := fin_at (ds := ds) (Rs := Rs) (a := a.put d (u 0)) (fun i => u (i + 1)) (by simpa using hl) h1 (fun i R' hR => hu (i + 1) R' (by simpa using hR))
    have e : ∀ (l : List (Option Nat)) (k : Nat) (a : Act), (l.zipIdx k).foldl (fun a x => a.put x.1 (u (x.2 + 1))) a = (l.zipIdx (k + 1)).foldl (fun a x => a.put x.1 (u x.2)) a := by
      intro l
      induction l with
      | nil => intro k a; rfl
      | cons x l ih => intro k a; simp only [List.zipIdx_cons, List.foldl_cons]; exact ih (k + 1) _
    simp only [List.zipIdx_cons, List.foldl_cons]
    rw [← e]
    exact h2

theorem foldl_put_ne (u : Nat → Value) (t : Nat) : ∀ (l : List (Option Nat)) (k : Nat) (a : Act), some t ∉ l → ((l.zipIdx k).foldl (fun a x => a.put x.1 (u x.2)) a).tmps[t]? = a.tmps[t]?
  | [], k, a, _ => rfl
  | d :: l, k, a, h => by
    simp only [List.zipIdx_cons, List.foldl_cons]
    rw [foldl_put_ne u t l (k + 1) _ (fun hm => h (List.mem_cons_of_mem _ hm))]
    exact put_ne _ _ _ _ (fun e => h (by rw [← e]; exact List.mem_cons_self ..))

theorem foldl_put_size (u : Nat → Value) : ∀ (l : List (Option Nat)) (k : Nat) (a : Act), ((l.zipIdx k).foldl (fun a x => a.put x.1 (u x.2)) a).tmps.size = a.tmps.size ∧ ((l.zipIdx k).foldl (fun a x => a.put x.1 (u x.2)) a).defers = a.defers
  | [], k, a => ⟨rfl, rfl⟩
  | d :: l, k, a => by
    simp only [List.zipIdx_cons, List.foldl_cons]
    obtain ⟨h1, h2⟩ := foldl_put_size u l (k + 1) (a.put d (u k))
    exact ⟨h1.trans (put_size ..), h2.trans (put_defers ..)⟩

theorem foldl_put_at (u : Nat → Value) (t : Nat) : ∀ (l : List (Option Nat)) (k : Nat) (a : Act), (l.filterMap id).Nodup → t < a.tmps.size → ∀ i, l[i]? = some (some t) →
    ((l.zipIdx k).foldl (fun a x => a.put x.1 (u x.2)) a).tmps[t]? = some (u (k + i))
  | [], k, a, _, _, i, h => by simp at h
  | d :: l, k, a, hn, ht, i, h => by
    simp only [List.zipIdx_cons, List.foldl_cons]
    cases i with
    | zero =>
      simp at h
      subst h
      simp only [List.filterMap_cons, id] at hn
      rw [List.nodup_cons] at hn
      rw [foldl_put_ne u t l (k + 1) _ (fun hm => hn.1 (show t ∈ l.filterMap id from List.mem_filterMap.2 ⟨some t, hm, rfl⟩))]
      simp [Act.put, ht]
    | succ i =>
      have hn' : (l.filterMap id).Nodup := by
        cases d with
        | none => simpa using hn
        | some x => simp only [List.filterMap_cons, id] at hn; exact (List.nodup_cons.1 hn).2
      have := foldl_put_at u t l (k + 1) (a.put d (u k)) hn' (by rw [put_size]; exact ht) i (by simpa using h)
      rw [this, show k + 1 + i = k + (i + 1) from by omega]

/-- THE LAW: a drawn region, each operation shown once. -/
theorem wp_region_mono {id : Nat} {ops : List Oper} {Q : Exit → Act → World → Prop} {a0 : Act} {w0 : World} (ds : List (Option Nat)) (Rs : List Prp) (hm : P.follows .mixedOrders = true)
    (hf : formB ops ds a0.tmps.size = true) (hg : OpGoals P ds Rs a0 w0 ops Rs)
    (hfin : ∀ w, Below w0.heap.size w0 w → Fin w (fun a => Q .normal a w) ds Rs a0) : (Code.region id ops.toArray true).wp P Q a0 w0 := by
  have hf' := hf
  simp only [formB, Bool.and_eq_true, beq_iff_eq, decide_eq_true_eq, List.all_eq_true] at hf'
  obtain ⟨⟨⟨⟨f1, f2⟩, f3⟩, _⟩, _⟩ := hf'
  obtain ⟨hlen, _⟩ := opGoals_at hg
  have hdl : ds.length = ops.length := by rw [← f1]; simp
  refine wp_region_any hm (wpAny_mono hf hg ?_ _ _ _ _ (by simp) ?_ ?_)
  · intro listed a w hsz hall h
    have ex : ∀ i : Nat, ∃ v, (∀ R : Prp, Rs[i]? = some R → R.R v w) ∧ ∀ d, ds[i]? = some (some d) → a.eval (.tmp d) = v := by
      intro i
      cases hR : Rs[i]? with
      | none =>
        refine ⟨undef, (fun R h => by cases h), fun d hd => ?_⟩
        have h1 := (List.getElem?_eq_some_iff.1 hd).1
        have h2 : Rs.length ≤ i := by simpa using hR
        omega
      | some R =>
        have hi : i < ops.length := by have := (List.getElem?_eq_some_iff.1 hR).1; omega
        obtain ⟨v, h1, h2⟩ := h.holds i R (hall i hi) hR
        exact ⟨v, (fun R' hR' => by cases hR'; exact h1), h2⟩
    obtain ⟨u, hu⟩ := Classical.axiomOfChoice ex
    have hK := fin_at (w := w) u (by omega) (hfin w h.below) (fun i R hR => (hu i).1 R hR)
    have e : ds.zipIdx.foldl (fun a x => a.put x.1 (u x.2)) a0 = a := by
      obtain ⟨s1, s2⟩ := foldl_put_size u ds 0 a0
      have hts : (ds.zipIdx.foldl (fun a x => a.put x.1 (u x.2)) a0).tmps = a.tmps := by
        apply Array.ext (by rw [s1, h.size])
        intro t ht1 ht2
        have key : (ds.zipIdx.foldl (fun a x => a.put x.1 (u x.2)) a0).tmps[t]? = a.tmps[t]? := by
          by_cases hm : some t ∈ ds
          · obtain ⟨i, hi⟩ := List.mem_iff_getElem?.1 hm
            rw [foldl_put_at u t ds 0 a0 f2 (by rw [← h.size]; exact ht2) i hi, Nat.zero_add]
            have h3 := (hu i).2 t hi
            simp only [Act.eval, Array.getD_eq_getD_getElem?] at h3
            rw [Array.getElem?_eq_getElem ht2] at h3 ⊢
            simp at h3
            rw [h3]
          · rw [foldl_put_ne u t ds 0 a0 hm, h.same t hm]
        rw [Array.getElem?_eq_getElem ht1, Array.getElem?_eq_getElem ht2] at key
        exact Option.some.inj key
      generalize ds.zipIdx.foldl (fun a x => a.put x.1 (u x.2)) a0 = b at *
      obtain ⟨bt, bd⟩ := b
      obtain ⟨at', ad⟩ := a
      simp only at hts s2
      rw [hts, s2, ← h.defers]
    rw [e] at hK
    exact hK
  · simp
  · exact ⟨Frame.ext_drew w0, rfl, rfl, fun _ _ => rfl, fun i R hi => by simp [Array.getD_eq_getD_getElem?, Array.getElem?_replicate] at hi; split at hi <;> cases hi⟩
end
end Go.Proofs.Ytjfponhdlfhmbaa.Mono
