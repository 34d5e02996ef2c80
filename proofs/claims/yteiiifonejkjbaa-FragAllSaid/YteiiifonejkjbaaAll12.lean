/-
  For FragAll's walk: swaps of a list; a box and lists beside other memory; what is put in whatever order, as one fact (Run); what the last loops look for (plain).
-/
import Derived.Test.YteiiifonejkjbaaAll11
namespace Go.Proofs.Yteiiifonejkjbaa.Fa
open Go.RowKit Mem Cells Ops Pcs Go.Maps Go.Proofs.Yteiiifonejkjbaa.Open Go.Proofs.Yteiiifonejkjbaa.Bx Go.Proofs.Yteiiifonejkjbaa.Rb Chunk
set_option linter.unusedVariables false
set_option linter.unusedSimpArgs false

/-! Swaps. -/
theorem set_perm {α : Type} : ∀ {l : List α} {i : Nat} {x y : α}, l[i]? = some x → (y :: l).Perm (x :: l.set i y)
  | [], i, x, y, h => by simp at h
  | a :: l, 0, x, y, h => by
    simp at h
    subst h
    exact List.Perm.swap a y l
  | a :: l, i + 1, x, y, h => by
    have h' : l[i]? = some x := by simpa using h
    rw [List.set_cons_succ]
    exact (List.Perm.swap a y l).trans (((set_perm (y := y) h').cons a).trans (List.Perm.swap x a _))
theorem swap_perm {α : Type} {l : List α} {i k : Nat} {x y : α} (hi : l[i]? = some x) (hk : l[k]? = some y) : ((l.set i y).set k x).Perm l := by
  have h1 := set_perm (y := y) hi
  have hil := (List.getElem?_eq_some_iff.1 hi).1
  have hkl := (List.getElem?_eq_some_iff.1 hk).1
  have h2 : (l.set i y)[k]? = some y := by
    rw [List.getElem?_set]
    split
    · rename_i e
      first | rfl | rw [if_pos hil]
    · exact hk
  have h3 := set_perm (y := x) h2
  exact ((h1.trans h3).cons_inv).symm
theorem fmod_lt (a : Int) (n : Nat) (h0 : 0 ≤ a) (hn : 0 < n) : ∃ k : Nat, a.tmod (n : Int) = (k : Int) ∧ k < n := by
  obtain ⟨b, rfl⟩ := Int.eq_ofNat_of_zero_le h0
  exact ⟨b % n, (Int.ofNat_tmod b n).symm, Nat.mod_lt _ hn⟩
/-! Memory. -/
/-- A block turns that is neither the box's own kind nor bytes. -/
theorem box_other {w w' : World} {Z g b1 b2 : Nat} {x : S} (hB : Box Z w g b1 b2 x) {q T : Nat} {cs : Array Value} (hg : w.grownBy w' (some q)) (hat : At w q T cs) (h1 : T ≠ 75) (h2 : T ≠ 5) : Box Z w' g b1 b2 x := by
  obtain ⟨vs, vw, m1, m2, h⟩ := hB
  exact ⟨vs, vw, m1, m2, h.row.kept' hg (fun e => at_ne hat h.row h1 (Option.some.inj e)), h.map1.kept hg (fun e => h.map1.ne_at hat (Option.some.inj e)), h.map2.kept hg (fun e => h.map2.ne_at hat (Option.some.inj e)), h.ne, h.says1, h.says2,
    fun a ha => (h.rows1 a ha).kept hg (.inr (own_ne (h.rows1 a ha) hat (fun e => h2 e.symm))), fun y hy => (h.rows2 y hy).kept hg (.inr (own_ne (h.rows2 y hy) hat (fun e => h2 e.symm))), h.ok⟩
theorem box_below {w w' : World} {Z g b1 b2 : Nat} {x : S} (hB : Box Z w g b1 b2 x) (hb : Below w.heap.size w w') : Box Z w' g b1 b2 x := by
  obtain ⟨vs, vw, m1, m2, h⟩ := hB
  exact ⟨vs, vw, m1, m2, h.below hb⟩
/-- A list's own block turns. -/
theorem box_ownG {w w' : World} {Z g b1 b2 : Nat} {x : S} (hB : Box Z w g b1 b2 x) {B : Nat} {v : Value} {al : List G} (h : OwnG B w v al) (hg : w.grownBy w' v.ownBlock) : Box Z w' g b1 b2 x := by
  obtain ⟨zs, h1, h2, h3⟩ := h
  cases hv : v.ownBlock with
  | none => rw [hv] at hg; exact box_below hB ⟨hg.os, hg.tape, hg.output, hg.size, fun i hi => hg.block i hi (by simp)⟩
  | some q =>
    obtain ⟨cur, hc⟩ := own_at h2 hv
    rw [hv] at hg
    exact box_other hB hg hc (by decide) (by decide)
theorem q_ownG {w w' : World} {B' : Nat} {u : Value} {bl : List A} (hQ : OwnQ B' w u bl) {B : Nat} {v : Value} {al : List G} (h : OwnG B w v al) (hg : w.grownBy w' v.ownBlock) : OwnQ B' w' u bl := by
  obtain ⟨zs, h1, h2, h3⟩ := h
  obtain ⟨ys, f1, f2, f3⟩ := hQ
  exact ⟨ys, f1, f2.kept hg (own_ne2 f2 h2 (by decide)), fun z hz => (f3 z hz).kept hg (own_ne2 (f3 z hz) h2 (by decide))⟩
theorem bx_not {w : World} {Z g b1 b2 : Nat} {x : S} (hB : Box Z w g b1 b2 x) {q T : Nat} {cs : Array Value} (hat : At w q T cs) (hT : T ≠ 75) : ¬ BX g b1 b2 q := by
  obtain ⟨vs, vw, m1, m2, hh⟩ := hB
  intro hx
  rcases hx with rfl | rfl | rfl
  · exact at_ne hat hh.row hT rfl
  · exact hh.map1.ne_at hat rfl
  · exact hh.map2.ne_at hat rfl
/-! What is put. -/
theorem allP_nodup {first : Int} {Ms : List M} (G : Good first Ms) : (allP Ms).Nodup := by
  rw [List.nodup_iff_pairwise_ne, List.pairwise_iff_getElem]
  intro i j hi hj hij e
  have h1 := G.tsn i _ (List.getElem?_eq_getElem hi)
  have h2 := G.tsn j _ (List.getElem?_eq_getElem hj)
  rw [e, h2] at h1
  have := G.len
  have := stp_inj h1 (by omega) (by omega)
  omega
theorem getElem_notin_take {α : Type} {l : List α} (hn : l.Nodup) {i : Nat} {p : α} (h : l[i]? = some p) : p ∉ l.take i := by
  intro hm
  obtain ⟨j, hj⟩ := List.getElem?_of_mem hm
  rw [List.getElem?_take] at hj
  split at hj
  · rename_i hlt
    have hil := (List.getElem?_eq_some_iff.1 h).1
    have := (List.getElem?_inj (i := j) (j := i) (by omega) hn).1 (by rw [hj, h])
    omega
  · cases hj
theorem take_more {α : Type} {l : List α} {i : Nat} {p : α} (h : l[i]? = some p) : l.take (i + 1) = l.take i ++ [p] := by
  rw [List.take_add_one, h]; rfl
theorem idx_le {Ms : List M} {D : List A} {l : List T} {nx : Nat → Int} {idx : List Nat} (I : InvO Ms D l nx idx) : idx.length ≤ Ms.length := by
  have := nodup_le (m := List.range Ms.length) I.idn (fun j hj => by
    obtain ⟨m, h, _⟩ := (I.told j).1 hj
    exact List.mem_range.2 (List.getElem?_eq_some_iff.1 h).1)
  simpa using this
/-! What the last loops look for. -/
/-- A message as the loops compare it. -/
def K (s : Int) (xs : List Int) : Int × ByteArray := (s, strOfNums xs)
def kG (a : G) : Int × ByteArray := K a.s a.data
def kC (a : C) : Int × ByteArray := K a.s a.data
/-- The ordered ones of stream s from the i-th on. -/
def ordC (s : Int) (l : List C) : List (Int × ByteArray) := (l.filter fun x => x.s == s && !x.un).map kC
theorem ordC_cons (s : Int) (x : C) (l : List C) : ordC s (x :: l) = if x.s = s ∧ x.un = false then kC x :: ordC s l else ordC s l := by
  unfold ordC
  rw [List.filter_cons]
  by_cases h1 : x.s = s
  · cases h2 : x.un <;> simp [h1]
  · simp [h1]
/-- What is known when all is told. -/
structure Told (cl : List C) (told : List G) : Prop where
  len : told.length = cl.length
  ord : ∀ s : Int, (ordC s cl).Sublist (told.map kG)
  cnt : ∀ k, (told.map kG).count k = (cl.map kC).count k
theorem told_of {first : Int} {cl : List C} {nx : Nat → Int} {out : List A} {Ms : List M} (U : Cutd first cl nx out Ms) {D : List A} {x : S} {idx : List Nat} (I : Inv Ms D x idx) (hall : ∀ a ∈ allP Ms, a ∈ D) : x.held = [] ∧ Told cl (idx.map (toG Ms)) := by
  obtain ⟨h1, h2⟩ := I.all U.seqs hall
  have key : (List.range Ms.length).map (fun j => kG (toG Ms j)) = cl.map kC := by
    apply List.ext_getElem?
    intro j
    rw [List.getElem?_map, List.getElem?_map]
    by_cases hj : j < Ms.length
    · rw [List.getElem?_range hj]
      have hj2 : j < cl.length := by rw [← U.len]; exact hj
      obtain ⟨m, e1, e2, e3, e4⟩ := U.at_ j cl[j] (List.getElem?_eq_getElem hj2)
      rw [List.getElem?_eq_getElem hj2]
      simp only [Option.map_some, Option.some.injEq]
      unfold toG kG kC
      rw [e1, ← e2, ← e4]
    · rw [List.getElem?_eq_none (by simpa using hj), List.getElem?_eq_none (by rw [← U.len]; omega)]
      rfl
  refine ⟨h1, ?_, fun s => ?_, fun k => ?_⟩
  · rw [List.length_map, h2.length_eq, List.length_range, U.len]
  · have h3 := List.Sublist.map kG (sub_told I.o h2 s)
    rw [List.map_map] at h3
    have e : ordC s cl = ((List.range Ms.length).filter (isO Ms s)).map (fun j => kG (toG Ms j)) := by
      have h4 : ∀ (l : List Nat) (cs : List C), (∀ (q : Nat) (j : Nat), l[q]? = some j → ∃ c, cs[q]? = some c ∧ kG (toG Ms j) = kC c ∧ isO Ms s j = (c.s == s && !c.un)) → l.length = cs.length → ordC s cs = (l.filter (isO Ms s)).map (fun j => kG (toG Ms j)) := by
        intro l
        induction l with
        | nil => intro cs _ hl; cases cs with | nil => rfl | cons => simp at hl
        | cons j l ih =>
          intro cs hq hl
          cases cs with
          | nil => simp at hl
          | cons c cs =>
            obtain ⟨c', e1, e2, e3⟩ := hq 0 j rfl
            simp at e1
            subst e1
            have hr := ih cs (fun q j' h => hq (q + 1) j' (by simpa using h)) (by simpa using hl)
            rw [ordC_cons, List.filter_cons, e3, hr]
            by_cases h1 : c.s = s
            · cases hu : c.un <;> simp [h1, e2]
            · simp [h1]
      refine h4 (List.range Ms.length) cl ?_ (by rw [List.length_range, U.len])
      intro q j hq
      have hq1 := (List.getElem?_eq_some_iff.1 hq).1
      rw [List.length_range] at hq1
      rw [List.getElem?_range hq1] at hq
      cases hq
      have hj2 : q < cl.length := by rw [← U.len]; exact hq1
      obtain ⟨m, e1, e2, e3, e4⟩ := U.at_ q cl[q] (List.getElem?_eq_getElem hj2)
      refine ⟨cl[q], List.getElem?_eq_getElem hj2, ?_, ?_⟩
      · unfold toG kG kC
        rw [e1, ← e2, ← e4]
      · unfold isO
        rw [e1]
        simp only [e2, e3]
    rw [e]
    exact h3
  · have h3 := (h2.map (fun j => kG (toG Ms j))).count_eq k
    rw [key] at h3
    rw [List.map_map]
    exact h3
theorem count_step {l : List G} {k : Nat} {y : G} (h : l[k]? = some y) (z : Int × ByteArray) : ((l.take (k + 1)).map kG).count z = ((l.take k).map kG).count z + (if (kG y == z) = true then 1 else 0) := by
  rw [take_more h, List.map_append, List.count_append]
  congr 1
  simp [List.count_cons]
theorem countC_step {l : List C} {k : Nat} {y : C} (h : l[k]? = some y) (z : Int × ByteArray) : ((l.take (k + 1)).map kC).count z = ((l.take k).map kC).count z + (if (kC y == z) = true then 1 else 0) := by
  rw [take_more h, List.map_append, List.count_append]
  congr 1
  simp [List.count_cons]
end Go.Proofs.Yteiiifonejkjbaa.Fa
