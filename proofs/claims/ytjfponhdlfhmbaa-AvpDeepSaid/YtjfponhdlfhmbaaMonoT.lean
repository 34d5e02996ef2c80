/-
  A REGION THAT DRAWS ITS ORDER, WITH A HEAD WHOSE OPERATIONS LEAVE OLD MEMORY ALONE (they may make memory), AND A TAIL THAT IS FORCED behind the head and runs in its own order: the head's operations are shown once each, as in Mono; then the tail is walked. No program is looked into here.
-/
import Derived.Test.YtjfponhdlfhmbaaMono
import Derived.StillTail
namespace Go.Proofs.Ytjfponhdlfhmbaa.Mono
open Go.RowKit
set_option linter.unusedVariables false
set_option linter.unusedSimpArgs false
/-- The region's form: the head's slots are apart, they are there, each operation waits for earlier ones alone; the tail waits for the head, and comes in order. -/
def formT (ops : List Oper) (n : Nat) (ds : List (Option Nat)) (size : Nat) : Bool :=
  ((ops.take n).map (·.dst) == ds) && decide ((ds.filterMap id).Nodup) && (ds.filterMap id).all (· < size) &&
  ((ops.take n).zipIdx.all fun (o, i) => o.after.toList.all fun e => !Region.binds .any e || decide (e.on < i)) && ((ops.take n).all fun o => match o.guard with | none => true | some (g, _) => decide (g < n)) &&
  decide (n < ops.length) && Region.sinkB .any ops.toArray n && Region.chainB .any ops.toArray n && Region.seqB .any ops.toArray (ops.length - n) n (Array.replicate n true ++ Array.replicate (ops.length - n) false)
section
variable {P : Program}
/-- THE STEP: operation j of the head comes up. -/
theorem step_opT {ops : List Oper} {n : Nat} {ds : List (Option Nat)} {Rs : List Prp} {a0 : Act} {w0 : World} {Q : Exit → Act → World → Prop} {listed : Array Bool} {a : Act} {w : World} {K : Act → World → Prop} {j : Nat}
    (hf : formT ops n ds a0.tmps.size = true) (hg : OpGoals P ds Rs a0 w0 (ops.take n) Rs) (hjn : j < n)
    (h : Inv ds Rs a0 w0 listed a w) (hj : j ∈ Region.ready .any ops.toArray listed)
    (hK : ∀ a' w', Inv ds Rs a0 w0 (listed.setIfInBounds j true) a' w' → K a' w') : wpOp P ops.toArray Q j K a w := by
  obtain ⟨hjun, o, ho, hall⟩ := mem_ready.1 hj
  have ho0 : ops[j]? = some o := by simpa using ho
  have ho' : (ops.take n)[j]? = some o := by rw [List.getElem?_take]; simp [hjn, ho0]
  simp only [formT, Bool.and_eq_true, beq_iff_eq, decide_eq_true_eq, List.all_eq_true] at hf
  obtain ⟨⟨⟨⟨⟨⟨⟨⟨f1, f2⟩, f3⟩, f4⟩, f5⟩, f6⟩, f7⟩, f8⟩, f9⟩ := hf
  obtain ⟨hlen, hgo⟩ := opGoals_at hg
  have hjlt : j < (ops.take n).length := (List.getElem?_eq_some_iff.1 ho').1
  obtain ⟨R, hR⟩ : ∃ R, Rs[j]? = some R := ⟨Rs[j]'(by omega), by simp⟩
  have hdj : ds[j]? = some o.dst := by rw [← f1, List.getElem?_map, ho']; rfl
  have hom : o ∈ ops.take n := List.mem_of_getElem? ho'
  have hdeps : ∀ e ∈ o.after.toList, Region.binds .any e = true → listed.getD e.on false = true := fun e he hbe => hall e (by simpa using he) hbe
  have goal := hgo j o R ho' hR a w h.below (fun t ht => by simp [Act.eval, Array.getD_eq_getD_getElem?, h.same t ht]) (depFacts_of h _ hdeps)
  have hwant : Region.wanted o (yielded ops.toArray a.tmps) = want ds o a := by
    unfold Region.wanted want
    cases hgd : o.guard with
    | none => rfl
    | some gb =>
      obtain ⟨g, b⟩ := gb
      simp only
      have h5 := f5 o hom
      rw [hgd] at h5
      have hgn : g < n := by simpa using h5
      unfold yielded
      have hdg : ds[g]? = (ops[g]?).map (·.dst) := by rw [← f1]; simp [List.getElem?_take, hgn]
      cases hog : ops[g]? with
      | none => rw [hog] at hdg; simp [hog, hdg]
      | some og =>
        rw [hog] at hdg
        simp only [Option.map_some] at hdg
        cases hd : og.dst with
        | none => rw [hd] at hdg; simp [hog, hdg, hd]
        | some d =>
          rw [hd] at hdg
          simp only [hog, hdg, hd, List.getElem?_toArray, Option.bind_some, Act.eval, Array.getD_eq_getD_getElem?]
          cases hv : a.tmps[d]? with
          | none => simp [undef]
          | some v => cases v <;> simp
  have nodup : ∀ (i d : Nat), i ≠ j → ds[i]? = some (some d) → o.dst ≠ some d := by
    intro i d hij hi e
    rw [e] at hdj
    have key : ∀ (l : List (Option Nat)) (i j d : Nat), (l.filterMap id).Nodup → l[i]? = some (some d) → l[j]? = some (some d) → i = j := by
      intro l
      induction l with
      | nil => intro i j d _ h; simp at h
      | cons x l ih =>
        intro i j d hn hi hj
        cases i with
        | zero =>
          cases j with
          | zero => rfl
          | succ j =>
            simp at hi hj
            subst hi
            simp only [List.filterMap_cons, id] at hn
            rw [List.nodup_cons] at hn
            exact absurd (show d ∈ l.filterMap id from List.mem_filterMap.2 ⟨some d, List.mem_of_getElem? hj, rfl⟩) hn.1
        | succ i =>
          cases j with
          | zero =>
            simp at hi hj
            subst hj
            simp only [List.filterMap_cons, id] at hn
            rw [List.nodup_cons] at hn
            exact absurd (show d ∈ l.filterMap id from List.mem_filterMap.2 ⟨some d, List.mem_of_getElem? hi, rfl⟩) hn.1
          | succ j =>
            have hn' : (l.filterMap id).Nodup := by
              cases x with
              | none => simpa using hn
              | some x => simp only [List.filterMap_cons, id] at hn; exact (List.nodup_cons.1 hn).2
            rw [ih i j d hn' (by simpa using hi) (by simpa using hj)]
    exact hij (key ds i j d f2 hi hdj)
  have next : ∀ v w', Below w.heap.size w w' → R.R v w' → Inv ds Rs a0 w0 (listed.setIfInBounds j true) (a.put o.dst v) w' := by
    intro v w' hbw hRv
    refine ⟨Frame.ext h.below hbw, (put_size ..).trans h.size, (put_defers ..).trans h.defers, fun t ht => ?_, fun i R' hi hR' => ?_⟩
    · rw [put_ne _ _ _ _ (fun e => ht (by rw [← e]; exact List.mem_of_getElem? hdj))]
      exact h.same t ht
    · by_cases hij : i = j
      · subst hij
        rw [hR] at hR'
        cases hR'
        refine ⟨v, hRv, fun d hd => ?_⟩
        rw [hdj] at hd
        simp at hd
        rw [hd, eval_put_same _ _ _ (by
          rw [h.size]
          have := f3 d (List.mem_filterMap.2 ⟨some d, by rw [← hd]; exact List.mem_of_getElem? hdj, rfl⟩)
          simpa using this)]
      · have hi' : listed.getD i false = true := by
          simp only [Array.getD_eq_getD_getElem?] at hi ⊢
          rwa [Array.getElem?_setIfInBounds_ne (Ne.symm hij)] at hi
        obtain ⟨v', h1, h2⟩ := h.holds i R' hi' hR'
        exact ⟨v', R'.stays _ _ _ h1 hbw, fun d hd => by rw [eval_put_ne _ _ _ _ (nodup i d hij hd)]; exact h2 d hd⟩
  unfold wpOp
  simp only [ho]
  rw [hwant]
  split
  · rename_i hw
    rw [if_pos hw] at goal
    exact .inl (Oper.wp_mono (fun a' w' ⟨v, e, hbw, hRv⟩ => by rw [e]; exact hK _ _ (next v w' hbw hRv)) (wp_weaken goal))
  · rename_i hw
    rw [if_neg hw] at goal
    exact hK _ _ (next undef w (Below.refl _ _) goal)


theorem wpAny_monoT {ops : List Oper} {n : Nat} {ds : List (Option Nat)} {Rs : List Prp} {a0 : Act} {w0 : World} {Q : Exit → Act → World → Prop}
    (hf : formT ops n ds a0.tmps.size = true) (hg : OpGoals P ds Rs a0 w0 (ops.take n) Rs)
    (hQ : ∀ listed a w, (∀ i, i < n → listed.getD i false = true) → Inv ds Rs a0 w0 listed a w → wpList P ops.toArray Q (ops.drop n) a w) :
    ∀ (d : Nat) (listed : Array Bool) (a : Act) (w : World), HeadInv .any ops.toArray n listed → listed.toList.count false = d + (ops.length - n) → Inv ds Rs a0 w0 listed a w → wpAny P .any ops.toArray Q (d + (ops.length - n)) listed a w := by
  have hf' := hf
  simp only [formT, Bool.and_eq_true, beq_iff_eq, decide_eq_true_eq, List.all_eq_true] at hf'
  obtain ⟨⟨⟨⟨⟨⟨⟨⟨f1, f2⟩, f3⟩, f4⟩, f5⟩, f6⟩, f7⟩, f8⟩, f9⟩ := hf'
  have hn : n < ops.toArray.size := by simpa using f6
  -- the count of what is not listed, by the head
  have split : ∀ listed : Array Bool, HeadInv .any ops.toArray n listed → listed = (listed.toList.take n).toArray ++ Array.replicate (ops.length - n) false := by
    intro listed inv
    have hs : listed.size = ops.length := by simpa using inv.size
    apply Array.ext_getElem?
    intro i
    by_cases hi : i < n
    · rw [Array.getElem?_append_left (by simp; omega)]
      simp [List.getElem?_take, hi]
    · rw [Array.getElem?_append_right (by simp; omega)]
      have hm : min n listed.size = n := by omega
      by_cases hi2 : i < ops.length
      · have h1 := inv.tail i (by omega) (by simpa using hi2)
        have h2 : listed[i]? = some false := by
          rw [Array.getD_eq_getD_getElem?] at h1
          rw [Array.getElem?_eq_getElem (by omega)] at h1 ⊢
          simpa using h1
        rw [h2]
        simp [Array.getElem?_replicate, hm]
        omega
      · rw [Array.getElem?_eq_none (by omega)]
        simp [Array.getElem?_replicate, hm]
        omega
  have cnt : ∀ listed : Array Bool, HeadInv .any ops.toArray n listed → listed.toList.count false = (listed.toList.take n).count false + (ops.length - n) := by
    intro listed inv
    conv => lhs; rw [split listed inv]
    simp [List.count_replicate]
  intro d
  induction d with
  | zero =>
    intro listed a w inv hc h
    have hz : (listed.toList.take n).count false = 0 := by have := cnt listed inv; omega
    have hs : listed.size = ops.length := by simpa using inv.size
    have hall : ∀ i, i < n → listed.getD i false = true := by
      intro i hi
      have hnm : false ∉ listed.toList.take n := List.count_eq_zero.1 hz
      have hil : i < listed.size := by omega
      rw [Array.getD_eq_getD_getElem?, Array.getElem?_eq_getElem hil]
      cases hb : listed[i] with
      | true => rfl
      | false => exact absurd (List.mem_iff_getElem?.2 ⟨i, by simp [List.getElem?_take, hi, hil, hb]⟩) hnm
    have hl : listed = Array.replicate n true ++ Array.replicate (ops.length - n) false := by
      rw [split listed inv]
      congr 1
      apply Array.ext_getElem?
      intro i
      by_cases hi : i < n
      · have h1 := hall i hi
        have hil : i < listed.size := by omega
        rw [Array.getD_eq_getD_getElem?, Array.getElem?_eq_getElem hil] at h1
        simp only [Option.getD_some] at h1
        simp [List.getElem?_take, hi, hil, h1, Array.getElem?_replicate]
      · simp [List.getElem?_take, hi, Array.getElem?_replicate]
    have := wpAny_of_seq (P := P) (md := .any) (ops := ops.toArray) (Q' := Q) (ops.drop n) n listed a w (fun j => by simp [List.getElem?_drop]) (by rw [List.length_drop, hl]; exact f9) (hQ listed a w hall h)
    rw [List.length_drop] at this
    rwa [Nat.zero_add]
  | succ d ih =>
    intro listed a w inv hc h
    have hs : listed.size = ops.length := by simpa using inv.size
    -- one of the head is not listed
    have hex : ∃ i, i < n ∧ listed.getD i true = false := by
      have hp : 0 < (listed.toList.take n).count false := by have := cnt listed inv; omega
      obtain ⟨i, hi⟩ := List.mem_iff_getElem?.1 (List.count_pos_iff.1 hp)
      have hin : i < n := by
        have := (List.getElem?_eq_some_iff.1 hi).1
        simp at this
        omega
      refine ⟨i, hin, ?_⟩
      rw [List.getElem?_take] at hi
      simp only [hin, if_true] at hi
      rw [Array.getD_eq_getD_getElem?]
      have : listed[i]? = some false := by simpa using hi
      rw [this]; rfl
    obtain ⟨i, hin, hiu⟩ := hex
    have hlt : ∀ j ∈ Region.ready .any ops.toArray listed, j < n := by
      intro j hj
      rcases Nat.lt_or_ge j n with h1 | h1
      · exact h1
      · exact absurd hj (tail_waits f7 f8 hn inv (n - i) i rfl hin hiu j h1)
    have hready : Region.ready .any ops.toArray listed ≠ [] := by
      intro hr
      have key : ∀ i, i < n → listed.getD i false = true := by
        intro i
        induction i using Nat.strongRecOn with
        | _ i ihh =>
          intro hi
          have hil : i < listed.size := by omega
          cases hb' : listed[i] with
          | true => simp [Array.getD_eq_getD_getElem?, hil, hb']
          | false =>
            exfalso
            have hio : i < ops.length := by omega
            have : i ∈ Region.ready .any ops.toArray listed := by
              refine mem_ready.2 ⟨by simp [Array.getD_eq_getD_getElem?, hil, hb'], ops[i], by simp, fun e he hbe => ?_⟩
              have h4 := f4 (ops[i], i) (by rw [List.mem_iff_getElem?]; exact ⟨i, by simp [List.getElem?_take, hi]⟩)
              have h5 : e.on < i := by simpa [hbe] using h4 e (by simpa using he)
              exact ihh e.on h5 (by omega)
            rw [hr] at this
            cases this
      have := key i hin
      have hil : i < listed.size := by omega
      simp [Array.getD_eq_getD_getElem?, hil] at this hiu
      rw [hiu] at this
      cases this
    rw [show d + 1 + (ops.length - n) = (d + (ops.length - n)) + 1 by omega]
    refine ⟨fun hr => absurd hr hready, fun j hj => ?_⟩
    have hjn := hlt j hj
    have h1 := (mem_ready.1 hj).1
    exact step_opT hf hg hjn h hj (fun a' w' h' => ih _ a' w' (inv.set hj hjn) (by have := count_set h1; omega) h')

/-- THE LAW: a drawn region, each operation of the head shown once; then the tail is walked. -/
theorem wp_region_monoT {id : Nat} {ops : List Oper} {Q : Exit → Act → World → Prop} {a0 : Act} {w0 : World} (n : Nat) (ds : List (Option Nat)) (Rs : List Prp) (hm : P.follows .mixedOrders = true)
    (hf : formT ops n ds a0.tmps.size = true) (hg : OpGoals P ds Rs a0 w0 (ops.take n) Rs)
    (hfin : ∀ w, Below w0.heap.size w0 w → Fin w (fun a => wpList P ops.toArray Q (ops.drop n) a w) ds Rs a0) : (Code.region id ops.toArray true).wp P Q a0 w0 := by
  have hf' := hf
  simp only [formT, Bool.and_eq_true, beq_iff_eq, decide_eq_true_eq, List.all_eq_true] at hf'
  obtain ⟨⟨⟨⟨⟨⟨⟨⟨f1, f2⟩, f3⟩, f4⟩, f5⟩, f6⟩, f7⟩, f8⟩, f9⟩ := hf'
  obtain ⟨hlen, _⟩ := opGoals_at hg
  have htl : (ops.take n).length = n := by simp; omega
  have hdl : ds.length = n := by rw [← f1]; simp; omega
  have hsz : ops.toArray.size = n + (ops.length - n) := by simp; omega
  refine wp_region_any hm ?_
  rw [hsz]
  have inv0 : HeadInv .any ops.toArray n (Array.replicate (n + (ops.length - n)) false) :=
    ⟨by rw [hsz]; simp, fun j oj _ hl => (by rw [getD_replicate_false] at hl; cases hl), fun t _ ht => getD_in (by rw [← hsz] ; simpa using ht) (getD_replicate_false _ _)⟩
  refine wpAny_monoT hf hg ?_ n _ _ _ inv0 (by simp) ?_
  · intro listed a w hall h
    have ex : ∀ i : Nat, ∃ v, (∀ R : Prp, Rs[i]? = some R → R.R v w) ∧ ∀ d, ds[i]? = some (some d) → a.eval (.tmp d) = v := by
      intro i
      cases hR : Rs[i]? with
      | none =>
        refine ⟨undef, (fun R h => by cases h), fun d hd => ?_⟩
        have h1 := (List.getElem?_eq_some_iff.1 hd).1
        have h2 : Rs.length ≤ i := by simpa using hR
        omega
      | some R =>
        have hi : i < n := by have := (List.getElem?_eq_some_iff.1 hR).1; omega
        obtain ⟨v, h1, h2⟩ := h.holds i R (hall i hi) hR
        exact ⟨v, (fun R' hR' => by cases hR'; exact h1), h2⟩
    obtain ⟨u, hu⟩ := Classical.axiomOfChoice ex
    have hK := fin_at (w := w) u (by omega) (hfin w h.below) (fun i R hR => (hu i).1 R hR)
    have e : ds.zipIdx.foldl (fun a x => a.put x.1 (u x.2)) a0 = a := by
      obtain ⟨s1, s2⟩ := foldl_put_size u ds 0 a0
      have hts : (ds.zipIdx.foldl (fun a x => a.put x.1 (u x.2)) a0).tmps = a.tmps := by
        apply Array.ext (by rw [s1, h.size])
        intro t ht1 ht2
        have key : (ds.zipIdx.foldl (fun a x => a.put x.1 (u x.2)) a0).tmps[t]? = a.tmps[t]? := by
          by_cases hm : some t ∈ ds
          · obtain ⟨i, hi⟩ := List.mem_iff_getElem?.1 hm
            rw [foldl_put_at u t ds 0 a0 f2 (by rw [← h.size]; exact ht2) i hi, Nat.zero_add]
            have h3 := (hu i).2 t hi
            simp only [Act.eval, Array.getD_eq_getD_getElem?] at h3
            rw [Array.getElem?_eq_getElem ht2] at h3 ⊢
            simp at h3
            rw [h3]
          · rw [foldl_put_ne u t ds 0 a0 hm, h.same t hm]
        rw [Array.getElem?_eq_getElem ht1, Array.getElem?_eq_getElem ht2] at key
        exact Option.some.inj key
      generalize ds.zipIdx.foldl (fun a x => a.put x.1 (u x.2)) a0 = b at *
      obtain ⟨bt, bd⟩ := b
      obtain ⟨at', ad⟩ := a
      simp only at hts s2
      rw [hts, s2, ← h.defers]
    rw [e] at hK
    exact hK
  · exact ⟨Frame.ext_drew w0, rfl, rfl, fun _ _ => rfl, fun i R hi => by simp [Array.getD_eq_getD_getElem?, Array.getElem?_replicate] at hi; split at hi <;> cases hi⟩
end
end Go.Proofs.Ytjfponhdlfhmbaa.Mono
