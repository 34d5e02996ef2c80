/-
  Several texts in one: All0, All1, All2, All3, All4, All5, All6, All7, All8, All9.
-/
import Derived.Test.YteiiifonejkjbaaPuts
/-
  Plain, for FragAll: messages in pieces, numbered one behind the other; where a piece lies; chains in a part of them. No program.
-/
namespace Go.Proofs.Yteiiifonejkjbaa.Fa
open Go.RowKit Mem Cells Ops Pcs Go.Maps Go.Proofs.Yteiiifonejkjbaa.Open Go.Proofs.Yteiiifonejkjbaa.Bx Go.Proofs.Yteiiifonejkjbaa.Rb
set_option linter.unusedVariables false
set_option linter.unusedSimpArgs false

/-- A message in pieces. -/
structure M where
  s : Int
  q : Int
  un : Bool
  ps : List A
def M.data (m : M) : List Int := m.ps.flatMap (·.data)
def M.ok (m : M) : Prop := m.ps ≠ [] ∧ ∀ (i : Nat) (a : A), m.ps[i]? = some a → a.stream = m.s ∧ a.seq = m.q ∧ a.un = m.un ∧ a.bg = decide (i = 0) ∧ a.en = decide (i + 1 = m.ps.length)
def allP (Ms : List M) : List A := Ms.flatMap (·.ps)
def off (Ms : List M) (j : Nat) : Nat := (allP (Ms.take j)).length
structure Good (first : Int) (Ms : List M) : Prop where
  ok : ∀ m ∈ Ms, m.ok
  tsn : ∀ (i : Nat) (a : A), (allP Ms)[i]? = some a → a.tsn = stp first (i : Int)
  len : (allP Ms).length ≤ 300
theorem allP_cons (m : M) (Ms : List M) : allP (m :: Ms) = m.ps ++ allP Ms := rfl
theorem off_zero (Ms : List M) : off Ms 0 = 0 := rfl
theorem off_cons (m : M) (Ms : List M) (j : Nat) : off (m :: Ms) (j + 1) = m.ps.length + off Ms j := by
  unfold off
  rw [List.take_succ_cons, allP_cons, List.length_append]
theorem at_off : ∀ {Ms : List M} {j : Nat} {m : M}, Ms[j]? = some m → ∀ (i : Nat), i < m.ps.length → (allP Ms)[off Ms j + i]? = m.ps[i]?
  | [], j, m, h, i, hi => by simp at h
  | x :: Ms, 0, m, h, i, hi => by
    simp at h
    subst h
    rw [off_zero, Nat.zero_add, allP_cons, List.getElem?_append_left hi]
  | x :: Ms, j + 1, m, h, i, hi => by
    rw [off_cons, allP_cons, Nat.add_assoc, List.getElem?_append_right (by omega), show x.ps.length + (off Ms j + i) - x.ps.length = off Ms j + i by omega]
    exact at_off (by simpa using h) i hi
theorem loc : ∀ {Ms : List M} {k : Nat} {a : A}, (allP Ms)[k]? = some a → ∃ (j : Nat) (m : M) (i : Nat), Ms[j]? = some m ∧ m.ps[i]? = some a ∧ k = off Ms j + i
  | [], k, a, h => by simp [allP] at h
  | x :: Ms, k, a, h => by
    rw [allP_cons] at h
    by_cases hk : k < x.ps.length
    · rw [List.getElem?_append_left hk] at h
      exact ⟨0, x, k, rfl, h, by rw [off_zero]; omega⟩
    · rw [List.getElem?_append_right (by omega)] at h
      obtain ⟨j, m, i, h1, h2, h3⟩ := loc h
      exact ⟨j + 1, m, i, by simpa using h1, h2, by rw [off_cons]; omega⟩
/-- What a part of all pieces has at a TSN. -/
theorem Good.at {first : Int} {Ms : List M} (G : Good first Ms) {h : List A} (hs : ∀ a ∈ h, a ∈ allP Ms) {z : Int} (h1 : -100000 < z) (h2 : z < 100000) {a : A} (hg : getH h (stp first z) = some a) : ∃ k : Nat, (k : Int) = z ∧ (allP Ms)[k]? = some a := by
  obtain ⟨hm, ht⟩ := getH_mem hg
  obtain ⟨k, hk⟩ := List.getElem?_of_mem (hs a hm)
  have hl := (List.getElem?_eq_some_iff.1 hk).1
  have := G.len
  have e := G.tsn k a hk
  rw [e] at ht
  exact ⟨k, stp_inj ht (by omega) (by omega), hk⟩
end Go.Proofs.Yteiiifonejkjbaa.Fa
/-
  Plain, for FragAll: a chain that holds a piece is that piece's own message, whole. No program.
-/
namespace Go.Proofs.Yteiiifonejkjbaa.Fa
open Go.RowKit Mem Cells Ops Pcs Go.Maps Go.Proofs.Yteiiifonejkjbaa.Open Go.Proofs.Yteiiifonejkjbaa.Bx Go.Proofs.Yteiiifonejkjbaa.Rb
set_option linter.unusedVariables false
set_option linter.unusedSimpArgs false

theorem chain_own {first : Int} {Ms : List M} (G : Good first Ms) {h : List A} (hs : ∀ a ∈ h, a ∈ allP Ms) {j i : Nat} {m : M} {p : A} (hj : Ms[j]? = some m) (hi : m.ps[i]? = some p) {F : Int} {n b : Nat} (hu : isU32 F) (hc : Chain h F n) (hb : b < n) (hn : n ≤ 512) (hp : p.tsn = stp F (b : Int)) :
    F = stp first (off Ms j : Int) ∧ n = m.ps.length ∧ ∀ a ∈ m.ps, a ∈ h := by
  have hil := (List.getElem?_eq_some_iff.1 hi).1
  have hK : (allP Ms)[off Ms j + i]? = some p := by rw [at_off hj i hil]; exact hi
  have hKl := (List.getElem?_eq_some_iff.1 hK).1
  have hlen := G.len
  have e1 := G.tsn _ _ hK
  have hF : F = stp first (((off Ms j + i : Nat) : Int) - (b : Int)) := by
    have : stp (stp F (b : Int)) (-(b : Int)) = F := by rw [stp_stp, show (b : Int) + -(b : Int) = 0 by omega, stp_0 hu]
    rw [← this, ← hp, e1, stp_stp, Int.sub_eq_add_neg]
  obtain ⟨_, q, hq⟩ := hc
  have hat : ∀ k : Nat, k < n → ∃ x : Nat, (x : Int) = ((off Ms j + i : Nat) : Int) - (b : Int) + (k : Int) ∧ (allP Ms)[x]? = some (q k) := by
    intro k hk
    obtain ⟨a1, _⟩ := hq k hk
    rw [hF, stp_stp] at a1
    exact G.at hs (by omega) (by omega) a1
  have hm := (G.ok m (List.mem_of_getElem? hj)).2
  have hbi : b = i := by
    by_cases hle : b ≤ i
    · obtain ⟨x, x1, x2⟩ := hat 0 (by omega)
      have : x = off Ms j + (i - b) := by omega
      subst this
      rw [at_off hj _ (by omega)] at x2
      have h1 := (hm _ _ x2).2.2.2.1
      have h2 := (hq 0 (by omega)).2.2.1
      rw [h2] at h1
      simp at h1
      omega
    · exfalso
      obtain ⟨x, x1, x2⟩ := hat (b - i) (by omega)
      have : x = off Ms j + 0 := by omega
      subst this
      rw [at_off hj _ (by omega)] at x2
      have h1 := (hm _ _ x2).2.2.2.1
      have h2 := (hq (b - i) (by omega)).2.2.1
      rw [h2] at h1
      simp at h1
      omega
  subst hbi
  have hin : ∀ k : Nat, k < n → k < m.ps.length → m.ps[k]? = some (q k) := by
    intro k hk hkl
    obtain ⟨x, x1, x2⟩ := hat k hk
    have : x = off Ms j + k := by omega
    subst this
    rw [at_off hj _ hkl] at x2
    exact x2
  have hnl : n = m.ps.length := by
    rcases Nat.lt_trichotomy n m.ps.length with hlt | he | hgt
    · exfalso
      have h1 := (hm _ _ (hin (n - 1) (by omega) (by omega))).2.2.2.2
      have h2 := (hq (n - 1) (by omega)).2.2.2
      rw [h2] at h1
      have : (decide (n - 1 + 1 = n)) = true := by simp; omega
      rw [this] at h1
      have := of_decide_eq_true h1.symm
      omega
    · exact he
    · exfalso
      have h1 := (hm _ _ (hin (m.ps.length - 1) (by omega) (by omega))).2.2.2.2
      have h2 := (hq (m.ps.length - 1) (by omega)).2.2.2
      rw [h2] at h1
      have : (decide (m.ps.length - 1 + 1 = m.ps.length)) = true := by simp; omega
      rw [this] at h1
      have := of_decide_eq_true h1
      omega
  refine ⟨by rw [hF]; congr 1; omega, hnl, fun a ha => ?_⟩
  obtain ⟨k, hk⟩ := List.getElem?_of_mem ha
  have hkl := (List.getElem?_eq_some_iff.1 hk).1
  have h1 := hin k (by omega) hkl
  rw [hk] at h1
  cases h1
  exact (getH_mem (hq k (by omega)).1).1
end Go.Proofs.Yteiiifonejkjbaa.Fa
/-
  Plain, for FragAll: a message whose pieces are all there is a chain; what is taken out then. No program.
-/
namespace Go.Proofs.Yteiiifonejkjbaa.Fa
open Go.RowKit Mem Cells Ops Pcs Go.Maps Go.Proofs.Yteiiifonejkjbaa.Open Go.Proofs.Yteiiifonejkjbaa.Bx Go.Proofs.Yteiiifonejkjbaa.Rb
set_option linter.unusedVariables false
set_option linter.unusedSimpArgs false

theorem get_of {first : Int} {Ms : List M} (G : Good first Ms) {h : List A} (hs : ∀ a ∈ h, a ∈ allP Ms) {k : Nat} {a : A} (hk : (allP Ms)[k]? = some a) (ha : a ∈ h) : getH h (stp first (k : Int)) = some a := by
  have hkl := (List.getElem?_eq_some_iff.1 hk).1
  have hlen := G.len
  have e := G.tsn k a hk
  cases hg : getH h (stp first (k : Int)) with
  | none => exact absurd e (getH_none hg a ha)
  | some b =>
    obtain ⟨k', h1, h2⟩ := G.at hs (by omega) (by omega) hg
    have : k' = k := by omega
    subst this
    rw [hk] at h2
    exact h2.symm
theorem own_chain {first : Int} {Ms : List M} (G : Good first Ms) {h : List A} (hs : ∀ a ∈ h, a ∈ allP Ms) {j : Nat} {m : M} (hj : Ms[j]? = some m) (hall : ∀ a ∈ m.ps, a ∈ h) : Chain h (stp first (off Ms j : Int)) m.ps.length := by
  obtain ⟨hne, hm⟩ := G.ok m (List.mem_of_getElem? hj)
  have h0 : 0 < m.ps.length := List.length_pos_iff.2 hne
  refine ⟨h0, fun i => (m.ps[i]?).getD zA, fun i hi => ?_⟩
  have hg : ∀ i (hi : i < m.ps.length), m.ps[i]? = some m.ps[i] := fun i hi => List.getElem?_eq_getElem hi
  obtain ⟨b1, b2, b3, b4, b5⟩ := hm i _ (hg i hi)
  obtain ⟨c1, c2, c3, _, _⟩ := hm 0 _ (hg 0 h0)
  show _ = some ((m.ps[i]?).getD zA) ∧ alikeB ((m.ps[i]?).getD zA) ((m.ps[0]?).getD zA) = true ∧ ((m.ps[i]?).getD zA).bg = _ ∧ ((m.ps[i]?).getD zA).en = _
  rw [hg i hi, hg 0 h0]
  refine ⟨?_, alike_iff.2 ⟨b1.trans c1.symm, b2.trans c2.symm, b3.trans c3.symm⟩, b4, b5⟩
  rw [stp_stp]
  have h1 := get_of G hs (k := off Ms j + i) (a := m.ps[i]) (by rw [at_off hj i hi]; exact hg i hi) (hall _ (List.getElem_mem hi))
  rw [Int.natCast_add] at h1
  exact h1
theorem rm_one {first : Int} {Ms : List M} (G : Good first Ms) {h : List A} (hs : ∀ a ∈ h, a ∈ allP Ms) {k : Nat} {a : A} (hk : (allP Ms)[k]? = some a) : rm h (stp first (k : Int)) = h.filter fun b => decide (b ≠ a) := by
  unfold rm
  refine List.filter_congr fun b hb => ?_
  have e := G.tsn k a hk
  rw [← e, Bool.eq_iff_iff]
  simp only [bne_iff_ne, ne_eq, decide_eq_true_eq]
  refine not_congr ⟨fun hba => ?_, fun hba => by rw [hba]⟩
  obtain ⟨k', hk'⟩ := List.getElem?_of_mem (hs b hb)
  have hl := (List.getElem?_eq_some_iff.1 hk).1
  have hl' := (List.getElem?_eq_some_iff.1 hk').1
  have hlen := G.len
  rw [G.tsn k' b hk', e] at hba
  have := stp_inj hba (by omega) (by omega)
  have : k' = k := by omega
  subst this
  rw [hk] at hk'
  exact (Option.some.inj hk').symm
theorem take_own {first : Int} {Ms : List M} (G : Good first Ms) {j : Nat} {m : M} (hj : Ms[j]? = some m) : ∀ (n i : Nat) {h : List A} {acc : List Int}, i + n = m.ps.length → (∀ a ∈ h, a ∈ allP Ms) → (∀ a ∈ m.ps.drop i, a ∈ h) →
    takeF n h (stp first ((off Ms j + i : Nat) : Int)) acc = (h.filter fun b => decide (b ∉ m.ps.drop i), acc ++ (m.ps.drop i).flatMap (·.data))
  | 0, i, h, acc, hn, hs, hall => by
    have : m.ps.drop i = [] := List.drop_eq_nil_of_le (by omega)
    rw [this]
    have h1 : (h.filter fun b => decide (b ∉ ([] : List A))) = h := List.filter_eq_self.2 (fun b _ => by simp)
    rw [h1]
    simp [takeF]
  | n + 1, i, h, acc, hn, hs, hall => by
    have hi : i < m.ps.length := by omega
    have hk : (allP Ms)[off Ms j + i]? = some m.ps[i] := by rw [at_off hj i hi]; exact List.getElem?_eq_getElem hi
    have hd : m.ps.drop i = m.ps[i] :: m.ps.drop (i + 1) := List.drop_eq_getElem_cons hi
    have hg := get_of G hs hk (hall _ (by rw [hd]; exact List.mem_cons_self))
    have hlen := G.len
    have hkl := (List.getElem?_eq_some_iff.1 hk).1
    have hnd : m.ps[i] ∉ m.ps.drop (i + 1) := by
      intro hmem
      obtain ⟨x, hx⟩ := List.getElem?_of_mem hmem
      rw [List.getElem?_drop] at hx
      have hxl := (List.getElem?_eq_some_iff.1 hx).1
      have hk2 : (allP Ms)[off Ms j + (i + 1 + x)]? = some m.ps[i] := by rw [at_off hj _ hxl]; exact hx
      have hk2l := (List.getElem?_eq_some_iff.1 hk2).1
      have e1 := G.tsn _ _ hk
      have e2 := G.tsn _ _ hk2
      have := stp_inj (e1.symm.trans e2) (by omega) (by omega)
      omega
    rw [take_more hg, nxt_stp, rm_one G hs hk, show ((off Ms j + i : Nat) : Int) + 1 = ((off Ms j + (i + 1) : Nat) : Int) by omega]
    rw [take_own G hj n (i + 1) (by omega) (fun a ha => hs a (List.mem_filter.1 ha).1) (fun a ha => List.mem_filter.2 ⟨hall a (by rw [hd]; exact List.mem_cons_of_mem _ ha), decide_eq_true (by rintro rfl; exact hnd ha)⟩)]
    rw [hd, List.filter_filter]
    refine Prod.ext (List.filter_congr fun b hb => ?_) (by simp only [List.flatMap_cons, List.append_assoc])
    rw [Bool.eq_iff_iff]
    simp only [Bool.and_eq_true, decide_eq_true_eq, List.mem_cons, not_or, ne_eq]
    exact And.comm
end Go.Proofs.Yteiiifonejkjbaa.Fa
/-
  Plain, for FragAll: what Put's search finds among numbered pieces. No program.
-/
namespace Go.Proofs.Yteiiifonejkjbaa.Fa
open Go.RowKit Mem Cells Ops Pcs Go.Maps Go.Proofs.Yteiiifonejkjbaa.Open Go.Proofs.Yteiiifonejkjbaa.Bx Go.Proofs.Yteiiifonejkjbaa.Rb
set_option linter.unusedVariables false
set_option linter.unusedSimpArgs false

theorem whole_full {first : Int} {Ms : List M} (G : Good first Ms) {h : List A} (hs : ∀ a ∈ h, a ∈ allP Ms) {j i : Nat} {m : M} {p : A} (hj : Ms[j]? = some m) (hi : m.ps[i]? = some p) (hall : ∀ a ∈ m.ps, a ∈ h) : wholeF h p = (stp first (off Ms j : Int), m.ps.length) := by
  have hil := (List.getElem?_eq_some_iff.1 hi).1
  have hK : (allP Ms)[off Ms j + i]? = some p := by rw [at_off hj i hil]; exact hi
  have hKl := (List.getElem?_eq_some_iff.1 hK).1
  have hlen := G.len
  have e1 := G.tsn _ _ hK
  have hg := get_of G hs hK (hall p (List.mem_of_getElem? hi))
  rw [← e1] at hg
  have hc := own_chain G hs hj hall
  have hle : m.ps.length ≤ 300 := by
    have h1 : (allP Ms)[off Ms j + (m.ps.length - 1)]? = m.ps[m.ps.length - 1]? := at_off hj _ (by omega)
    rw [List.getElem?_eq_getElem (show m.ps.length - 1 < m.ps.length by omega)] at h1
    have := (List.getElem?_eq_some_iff.1 h1).1
    omega
  refine whole_of hg (u32_wrap _) ?_ hc hil (by omega)
  rw [stp_stp, e1, Int.natCast_add]
theorem whole_part {first : Int} {Ms : List M} (G : Good first Ms) {h : List A} (hs : ∀ a ∈ h, a ∈ allP Ms) (hl : h.length ≤ 512) {j i : Nat} {m : M} {p : A} (hj : Ms[j]? = some m) (hi : m.ps[i]? = some p) (hp : p ∈ h) (hno : ¬ ∀ a ∈ m.ps, a ∈ h) : (wholeF h p).2 = 0 := by
  have hil := (List.getElem?_eq_some_iff.1 hi).1
  have hK : (allP Ms)[off Ms j + i]? = some p := by rw [at_off hj i hil]; exact hi
  have e1 := G.tsn _ _ hK
  have hg := get_of G hs hK hp
  rw [← e1] at hg
  have hut : isU32 p.tsn := by rw [e1]; exact u32_wrap _
  rcases hw : wholeF h p with ⟨F, n⟩
  cases n with
  | zero => rfl
  | succ n =>
    exfalso
    obtain ⟨h1, h2, b, h3, h4⟩ := of_whole hg hut hl hw
    have h5 := (whole_all hut hw).2.1
    exact hno (chain_own G hs hj hi h1 h2 (by omega) (by omega) h4).2.2
end Go.Proofs.Yteiiifonejkjbaa.Fa
/-
  Plain, for FragAll: ordered messages: what waits, what is told, and in which order (InvO); what ready makes of it. No program.
-/
namespace Go.Proofs.Yteiiifonejkjbaa.Fa
open Go.RowKit Mem Cells Ops Pcs Go.Maps Go.Proofs.Yteiiifonejkjbaa.Open Go.Proofs.Yteiiifonejkjbaa.Bx Go.Proofs.Yteiiifonejkjbaa.Rb
set_option linter.unusedVariables false
set_option linter.unusedSimpArgs false

def full (D : List A) (m : M) : Prop := ∀ a ∈ m.ps, a ∈ D
/-- Ordered messages are numbered in their order, each stream by itself. -/
structure Seqs (Ms : List M) : Prop where
  st : ∀ m ∈ Ms, 0 ≤ m.s ∧ m.s < 8
  qb : ∀ m ∈ Ms, m.un = false → 0 ≤ m.q ∧ m.q < 1000
  mono : ∀ (a b : Nat) (ma mb : M), Ms[a]? = some ma → Ms[b]? = some mb → ma.un = false → mb.un = false → ma.s = mb.s → (a < b ↔ ma.q < mb.q)
  low : ∀ m ∈ Ms, m.un = false → ∀ v : Int, 0 ≤ v → v < m.q → ∃ m' ∈ Ms, m'.un = false ∧ m'.s = m.s ∧ m'.q = v
theorem Seqs.uniq {Ms : List M} (S : Seqs Ms) {a b : Nat} {ma mb : M} (ha : Ms[a]? = some ma) (hb : Ms[b]? = some mb) (ua : ma.un = false) (ub : mb.un = false) (hs : ma.s = mb.s) (hq : ma.q = mb.q) : a = b := by
  have h1 := S.mono a b ma mb ha hb ua ub hs
  have h2 := S.mono b a mb ma hb ha ub ua hs.symm
  omega
structure InvO (Ms : List M) (D : List A) (l : List T) (nx : Nat → Int) (idx : List Nat) : Prop where
  nod : (l.map fun y => (y.s, y.q)).Nodup
  wait : ∀ y, y ∈ l ↔ ∃ m ∈ Ms, m.un = false ∧ full D m ∧ nx m.s.toNat ≤ m.q ∧ y = ⟨m.s, m.q, m.data⟩
  told : ∀ j, j ∈ idx ↔ ∃ m, Ms[j]? = some m ∧ full D m ∧ (m.un = true ∨ m.q < nx m.s.toNat)
  idn : idx.Nodup
  ord : idx.Pairwise fun a b => ∀ ma mb, Ms[a]? = some ma → Ms[b]? = some mb → ma.un = false → mb.un = false → ma.s = mb.s → a < b
  nn : ∀ t, 0 ≤ nx t
  fin : ∀ m ∈ Ms, m.un = false → m.q < nx m.s.toNat → full D m
def toG (Ms : List M) (j : Nat) : G := match Ms[j]? with
  | some m => ⟨m.s, m.data⟩
  | none => ⟨0, []⟩
theorem getW_of {l : List T} (hn : (l.map fun y => (y.s, y.q)).Nodup) {y : T} (hy : y ∈ l) : getW l y.s y.q = some y := by
  cases h : getW l y.s y.q with
  | none => exact absurd ⟨rfl, rfl⟩ (getW_none h y hy)
  | some z =>
    obtain ⟨h1, h2, h3⟩ := getW_mem h
    obtain ⟨i, hi⟩ := List.getElem?_of_mem hy
    obtain ⟨k, hk⟩ := List.getElem?_of_mem h1
    have e : (l.map fun y => (y.s, y.q))[i]? = (l.map fun y => (y.s, y.q))[k]? := by rw [List.getElem?_map, List.getElem?_map, hi, hk]; simp [h2, h3]
    have hil : i < (l.map fun y => (y.s, y.q)).length := by rw [List.length_map]; exact (List.getElem?_eq_some_iff.1 hi).1
    have := (List.getElem?_inj hil hn).1 e
    subst this
    rw [hi] at hk
    exact hk.symm
theorem InvO.step {Ms : List M} (S : Seqs Ms) {D : List A} {l : List T} {nx : Nat → Int} {idx : List Nat} (I : InvO Ms D l nx idx) {s : Nat} {y : T} (hy : getW l (s : Int) (nx s) = some y) :
    ∃ j, toG Ms j = ⟨(s : Int), y.data⟩ ∧ InvO Ms D (rmW l s (nx s)) (Chunk.upd nx s (nx16 (nx s))) (idx ++ [j]) := by
  obtain ⟨h1, h2, h3⟩ := getW_mem hy
  obtain ⟨m, hm, hun, hf, hle, hye⟩ := (I.wait y).1 h1
  obtain ⟨j, hj⟩ := List.getElem?_of_mem hm
  have hms : m.s = (s : Int) := by rw [← h2, hye]
  have hmq : m.q = nx s := by rw [← h3, hye]
  have hb := S.qb m hm hun
  have hnx : nx16 (nx s) = nx s + 1 := by unfold nx16; rw [Bx.wrap16]; omega
  have hts : m.s.toNat = s := by omega
  have hup : ∀ t : Nat, Chunk.upd nx s (nx16 (nx s)) t = if t = s then nx s + 1 else nx t := by intro t; unfold Chunk.upd; rw [hnx]
  refine ⟨j, by unfold toG; rw [hj, hye]; simp [hms], ?_, ?_, ?_, ?_, ?_, ?_, ?_⟩
  · exact (List.Sublist.map _ (List.filter_sublist (l := l))).nodup I.nod
  · intro z
    unfold rmW
    rw [List.mem_filter, I.wait z]
    constructor
    · rintro ⟨⟨m', hm', u', f', l', rfl⟩, hne⟩
      refine ⟨m', hm', u', f', ?_, rfl⟩
      rw [hup]
      have hst := S.st m' hm'
      split
      · rename_i e
        have e2 : m'.s = (s : Int) := by omega
        rw [e] at l'
        have : m'.q ≠ nx s := by
          intro e3
          simp [e2, e3] at hne
        omega
      · exact l'
    · rintro ⟨m', hm', u', f', l', rfl⟩
      rw [hup] at l'
      have hst := S.st m' hm'
      split at l'
      · rename_i e
        refine ⟨⟨m', hm', u', f', by rw [e]; omega, rfl⟩, ?_⟩
        have : m'.q ≠ nx s := by omega
        simp [this]
      · rename_i e
        refine ⟨⟨m', hm', u', f', l', rfl⟩, ?_⟩
        have : m'.s ≠ (s : Int) := by intro e2; apply e; omega
        simp [this]
  · intro k
    rw [List.mem_append, List.mem_singleton, I.told k]
    constructor
    · rintro (⟨m', h', f', c'⟩ | rfl)
      · refine ⟨m', h', f', ?_⟩
        rcases c' with c' | c'
        · exact .inl c'
        · right
          rw [hup]
          split
          · rename_i e; rw [e] at c'; omega
          · exact c'
      · exact ⟨m, hj, hf, .inr (by rw [hup, if_pos hts, hmq]; omega)⟩
    · rintro ⟨m', h', f', c'⟩
      rcases c' with c' | c'
      · exact .inl ⟨m', h', f', .inl c'⟩
      · rw [hup] at c'
        split at c'
        · rename_i e
          have hst := S.st m' (List.mem_of_getElem? h')
          cases hu' : m'.un with
          | true => exact .inl ⟨m', h', f', .inl hu'⟩
          | false =>
            by_cases e3 : m'.q = nx s
            · right
              exact S.uniq h' hj hu' hun (by omega) (by omega)
            · left
              exact ⟨m', h', f', .inr (by rw [e]; omega)⟩
        · exact .inl ⟨m', h', f', .inr c'⟩
  · rw [List.nodup_append]
    refine ⟨I.idn, by simp, ?_⟩
    intro a ha b hb2 e
    rw [List.mem_singleton] at hb2
    subst hb2
    subst e
    obtain ⟨m', h', f', c'⟩ := (I.told a).1 ha
    rw [hj] at h'
    cases h'
    rcases c' with c' | c'
    · rw [hun] at c'; cases c'
    · rw [hts, hmq] at c'; omega
  · rw [List.pairwise_append]
    refine ⟨I.ord, by simp, ?_⟩
    intro a ha b hb2 ma mb h1 h2 u1 u2 es
    rw [List.mem_singleton] at hb2
    subst hb2
    obtain ⟨m', h', f', c'⟩ := (I.told a).1 ha
    rw [h1] at h'
    cases h'
    rw [hj] at h2
    cases h2
    rcases c' with c' | c'
    · rw [u1] at c'; cases c'
    · rw [es, hts] at c'
      exact (S.mono a b ma m h1 hj u1 hun es).2 (by omega)
  · intro t
    rw [hup]
    have := I.nn s
    split
    · omega
    · exact I.nn t
  · intro m' hm' u' c'
    rw [hup] at c'
    split at c'
    · rename_i e
      have hst := S.st m' hm'
      by_cases e3 : m'.q = nx s
      · obtain ⟨k, hk⟩ := List.getElem?_of_mem hm'
        have := S.uniq hk hj u' hun (by omega) (by omega)
        subst this
        rw [hj] at hk
        cases hk
        exact hf
      · exact I.fin m' hm' u' (by rw [e]; omega)
    · exact I.fin m' hm' u' c'
end Go.Proofs.Yteiiifonejkjbaa.Fa
/-
  Plain, for FragAll: ready as a whole. No program.
-/
namespace Go.Proofs.Yteiiifonejkjbaa.Fa
open Go.RowKit Mem Cells Ops Pcs Go.Maps Go.Proofs.Yteiiifonejkjbaa.Open Go.Proofs.Yteiiifonejkjbaa.Bx Go.Proofs.Yteiiifonejkjbaa.Rb
set_option linter.unusedVariables false
set_option linter.unusedSimpArgs false

/-- Behind ready: the same is known, and none of the stream is at its turn. -/
theorem InvO.ready {Ms : List M} (S : Seqs Ms) {D : List A} (s : Nat) : ∀ (f : Nat) {l : List T} {nx : Nat → Int} {idx : List Nat} {out : List G}, InvO Ms D l nx idx → l.length < f →
    ∃ (js : List Nat), (readyF f l nx s out).2.2 = out ++ js.map (toG Ms) ∧ InvO Ms D (readyF f l nx s out).1 (readyF f l nx s out).2.1 (idx ++ js) ∧ getW (readyF f l nx s out).1 (s : Int) ((readyF f l nx s out).2.1 s) = none ∧ ∀ t, t ≠ s → (readyF f l nx s out).2.1 t = nx t
  | 0, l, nx, idx, out, I, hf => by omega
  | f + 1, l, nx, idx, out, I, hf => by
    cases hy : getW l (s : Int) (nx s) with
    | none =>
      have e : readyF (f + 1) l nx s out = (l, nx, out) := by unfold readyF; rw [hy]
      rw [e]
      exact ⟨[], by simp, by simpa using I, hy, fun t _ => rfl⟩
    | some y =>
      obtain ⟨j, hj, I'⟩ := I.step S hy
      have e : readyF (f + 1) l nx s out = readyF f (rmW l s (nx s)) (Chunk.upd nx s (nx16 (nx s))) s (out ++ [⟨s, y.data⟩]) := by conv => lhs; unfold readyF; rw [hy]
      have hl := rmW_length I.nod hy
      obtain ⟨js, h1, h2, h3, h4⟩ := InvO.ready S s f (out := out ++ [⟨s, y.data⟩]) I' (by omega)
      rw [e]
      refine ⟨j :: js, ?_, by simpa using h2, h3, fun t ht => (h4 t ht).trans ?_⟩
      · rw [h1, List.map_cons, hj]; simp
      · unfold Chunk.upd; rw [if_neg ht]
end Go.Proofs.Yteiiifonejkjbaa.Fa
/-
  Plain, for FragAll: what holds while pieces are put in whatever order (Inv), and that Put keeps it. No program.
-/
namespace Go.Proofs.Yteiiifonejkjbaa.Fa
open Go.RowKit Mem Cells Ops Pcs Go.Maps Go.Proofs.Yteiiifonejkjbaa.Open Go.Proofs.Yteiiifonejkjbaa.Bx Go.Proofs.Yteiiifonejkjbaa.Rb
set_option linter.unusedVariables false
set_option linter.unusedSimpArgs false

theorem off_succ : ∀ {Ms : List M} {j : Nat} {m : M}, Ms[j]? = some m → off Ms (j + 1) = off Ms j + m.ps.length
  | [], j, m, h => by simp at h
  | x :: Ms, 0, m, h => by
    simp at h
    subst h
    rw [off_cons, off_zero, off_zero]; omega
  | x :: Ms, j + 1, m, h => by
    rw [off_cons, off_cons, off_succ (Ms := Ms) (by simpa using h)]; omega
theorem off_le {Ms : List M} {j k : Nat} (h : j ≤ k) : off Ms j ≤ off Ms k := by
  induction k with
  | zero => have : j = 0 := by omega
            subst this; exact Nat.le_refl _
  | succ k ih =>
    rcases Nat.lt_or_ge j (k + 1) with h1 | h1
    · refine Nat.le_trans (ih (by omega)) ?_
      cases hm : Ms[k]? with
      | none =>
        unfold off
        have h2 := List.getElem?_eq_none_iff.1 hm
        rw [List.take_of_length_le h2, List.take_of_length_le (by omega)]
        exact Nat.le_refl _
      | some m => rw [off_succ hm]; omega
    · have : j = k + 1 := by omega
      rw [this]; exact Nat.le_refl _
theorem off_inj {Ms : List M} {j j' i i' : Nat} {m m' : M} (h : Ms[j]? = some m) (h' : Ms[j']? = some m') (hi : i < m.ps.length) (hi' : i' < m'.ps.length) (e : off Ms j + i = off Ms j' + i') : j = j' := by
  rcases Nat.lt_trichotomy j j' with hlt | he | hgt
  · have := off_le (Ms := Ms) (show j + 1 ≤ j' by omega)
    rw [off_succ h] at this
    omega
  · exact he
  · have := off_le (Ms := Ms) (show j' + 1 ≤ j by omega)
    rw [off_succ h'] at this
    omega
theorem Good.one {first : Int} {Ms : List M} (G : Good first Ms) {j j' : Nat} {m m' : M} {p : A} (h : Ms[j]? = some m) (h' : Ms[j']? = some m') (hp : p ∈ m.ps) (hp' : p ∈ m'.ps) : j = j' := by
  obtain ⟨i, hi⟩ := List.getElem?_of_mem hp
  obtain ⟨i', hi'⟩ := List.getElem?_of_mem hp'
  have l := (List.getElem?_eq_some_iff.1 hi).1
  have l' := (List.getElem?_eq_some_iff.1 hi').1
  have k := at_off h i l
  have k' := at_off h' i' l'
  rw [hi] at k
  rw [hi'] at k'
  have b := (List.getElem?_eq_some_iff.1 k).1
  have b' := (List.getElem?_eq_some_iff.1 k').1
  have hl := G.len
  have e := (G.tsn _ _ k).symm.trans (G.tsn _ _ k')
  have := stp_inj e (by omega) (by omega)
  exact off_inj h h' l l' (by omega)
theorem Good.tsn_inj {first : Int} {Ms : List M} (G : Good first Ms) {a b : A} (ha : a ∈ allP Ms) (hb : b ∈ allP Ms) (e : a.tsn = b.tsn) : a = b := by
  obtain ⟨i, hi⟩ := List.getElem?_of_mem ha
  obtain ⟨k, hk⟩ := List.getElem?_of_mem hb
  have b1 := (List.getElem?_eq_some_iff.1 hi).1
  have b2 := (List.getElem?_eq_some_iff.1 hk).1
  have hl := G.len
  rw [G.tsn _ _ hi, G.tsn _ _ hk] at e
  have := stp_inj e (by omega) (by omega)
  have : i = k := by omega
  subst this
  rw [hi] at hk
  exact Option.some.inj hk
theorem mem_all {Ms : List M} {m : M} (hm : m ∈ Ms) {a : A} (ha : a ∈ m.ps) : a ∈ allP Ms := List.mem_flatMap.2 ⟨m, hm, ha⟩
structure Inv (Ms : List M) (D : List A) (x : S) (idx : List Nat) : Prop where
  sub : ∀ a ∈ D, a ∈ allP Ms
  held : ∀ a, a ∈ x.held ↔ a ∈ D ∧ ∃ m ∈ Ms, a ∈ m.ps ∧ ¬ full D m
  o : InvO Ms D x.wait x.next idx
  stop : ∀ m ∈ Ms, m.un = false → full D m → m.q ≠ x.next m.s.toNat
theorem full_more {first : Int} {Ms : List M} (G : Good first Ms) {D : List A} {p : A} {j : Nat} {m : M} (hj : Ms[j]? = some m) (hp : p ∈ m.ps) {j' : Nat} {m' : M} (hj' : Ms[j']? = some m') (hne : j' ≠ j) : full (D ++ [p]) m' ↔ full D m' := by
  constructor
  · intro h a ha
    rcases List.mem_append.1 (h a ha) with h1 | h1
    · exact h1
    · rw [List.mem_singleton] at h1
      subst h1
      exact absurd (G.one hj hj' hp ha) (fun e => hne e.symm)
  · intro h a ha
    exact List.mem_append.2 (.inl (h a ha))
theorem full_mono {D : List A} {p : A} {m : M} (h : full D m) : full (D ++ [p]) m := fun a ha => List.mem_append.2 (.inl (h a ha))
end Go.Proofs.Yteiiifonejkjbaa.Fa
/-
  Plain, for FragAll: Put of one more piece keeps what is known (Inv.put). No program.
-/
namespace Go.Proofs.Yteiiifonejkjbaa.Fa
open Go.RowKit Mem Cells Ops Pcs Go.Maps Go.Proofs.Yteiiifonejkjbaa.Open Go.Proofs.Yteiiifonejkjbaa.Bx Go.Proofs.Yteiiifonejkjbaa.Rb
set_option linter.unusedVariables false
set_option linter.unusedSimpArgs false

theorem InvO.congr {Ms : List M} {D D' : List A} {l : List T} {nx : Nat → Int} {idx : List Nat} (I : InvO Ms D l nx idx) (h : ∀ m ∈ Ms, full D' m ↔ full D m) : InvO Ms D' l nx idx where
  nod := I.nod
  wait y := by
    rw [I.wait y]
    exact ⟨fun ⟨m, a, b, c, d⟩ => ⟨m, a, b, (h m a).2 c, d⟩, fun ⟨m, a, b, c, d⟩ => ⟨m, a, b, (h m a).1 c, d⟩⟩
  told j := by
    rw [I.told j]
    exact ⟨fun ⟨m, a, b, c⟩ => ⟨m, a, (h m (List.mem_of_getElem? a)).2 b, c⟩, fun ⟨m, a, b, c⟩ => ⟨m, a, (h m (List.mem_of_getElem? a)).1 b, c⟩⟩
  idn := I.idn
  ord := I.ord
  nn := I.nn
  fin m a b c := (h m a).2 (I.fin m a b c)
theorem InvO.addU {Ms : List M} {D D' : List A} {l : List T} {nx : Nat → Int} {idx : List Nat} (I : InvO Ms D l nx idx) {j : Nat} {m : M} (hj : Ms[j]? = some m) (hu : m.un = true) (hnf : ¬ full D m) (hf : full D' m)
    (ho : ∀ j' m', Ms[j']? = some m' → j' ≠ j → (full D' m' ↔ full D m')) : InvO Ms D' l nx (idx ++ [j]) := by
  have hoo : ∀ m' ∈ Ms, m'.un = false → (full D' m' ↔ full D m') := by
    intro m' hm' u'
    obtain ⟨j', h'⟩ := List.getElem?_of_mem hm'
    refine ho j' m' h' ?_
    rintro rfl
    rw [hj] at h'
    cases h'
    rw [hu] at u'
    cases u'
  refine ⟨I.nod, fun y => ?_, fun k => ?_, ?_, ?_, I.nn, fun m' a b c => (hoo m' a b).2 (I.fin m' a b c)⟩
  · rw [I.wait y]
    exact ⟨fun ⟨m, a, b, c, d⟩ => ⟨m, a, b, (hoo m a b).2 c, d⟩, fun ⟨m, a, b, c, d⟩ => ⟨m, a, b, (hoo m a b).1 c, d⟩⟩
  · rw [List.mem_append, List.mem_singleton, I.told k]
    constructor
    · rintro (⟨m', a, b, c⟩ | rfl)
      · by_cases e : k = j
        · subst e
          rw [hj] at a
          cases a
          exact absurd b hnf
        · exact ⟨m', a, (ho k m' a e).2 b, c⟩
      · exact ⟨m, hj, hf, .inl hu⟩
    · rintro ⟨m', a, b, c⟩
      by_cases e : k = j
      · exact .inr e
      · exact .inl ⟨m', a, (ho k m' a e).1 b, c⟩
  · rw [List.nodup_append]
    refine ⟨I.idn, by simp, ?_⟩
    intro a ha b hb e
    rw [List.mem_singleton] at hb
    subst hb
    subst e
    obtain ⟨m', h', f', _⟩ := (I.told a).1 ha
    rw [hj] at h'
    cases h'
    exact hnf f'
  · rw [List.pairwise_append]
    refine ⟨I.ord, by simp, ?_⟩
    intro a ha b hb ma mb h1 h2 u1 u2
    rw [List.mem_singleton] at hb
    subst hb
    rw [hj] at h2
    cases h2
    rw [hu] at u2
    cases u2
theorem InvO.addO {Ms : List M} (S : Seqs Ms) {D D' : List A} {l : List T} {nx : Nat → Int} {idx : List Nat} (I : InvO Ms D l nx idx) {j : Nat} {m : M} (hj : Ms[j]? = some m) (hu : m.un = false) (hnf : ¬ full D m) (hf : full D' m)
    (ho : ∀ j' m', Ms[j']? = some m' → j' ≠ j → (full D' m' ↔ full D m')) : getW l m.s m.q = none ∧ InvO Ms D' (l ++ [⟨m.s, m.q, m.data⟩]) nx idx := by
  have hle : nx m.s.toNat ≤ m.q := by
    have := I.fin m (List.mem_of_getElem? hj) hu
    rcases (show m.q < nx m.s.toNat ∨ nx m.s.toNat ≤ m.q by omega) with h | h
    · exact absurd (this h) hnf
    · exact h
  have hw : getW l m.s m.q = none := by
    cases hg : getW l m.s m.q with
    | none => rfl
    | some y =>
      exfalso
      obtain ⟨h1, h2, h3⟩ := getW_mem hg
      obtain ⟨m', hm', u', f', _, e⟩ := (I.wait y).1 h1
      obtain ⟨j', h'⟩ := List.getElem?_of_mem hm'
      have := S.uniq h' hj u' hu (by rw [← h2, e]) (by rw [← h3, e])
      subst this
      rw [hj] at h'
      cases h'
      exact hnf f'
  refine ⟨hw, ?_, fun y => ?_, fun k => ?_, I.idn, I.ord, I.nn, fun m' a b c => ?_⟩
  · rw [List.map_append, List.nodup_append]
    refine ⟨I.nod, by simp, ?_⟩
    intro a ha b hb e
    simp only [List.map_cons, List.map_nil, List.mem_singleton] at hb
    obtain ⟨y, hy, rfl⟩ := List.mem_map.1 ha
    rw [hb] at e
    simp only [Prod.mk.injEq] at e
    exact getW_none hw y hy e
  · rw [List.mem_append, List.mem_singleton, I.wait y]
    constructor
    · rintro (⟨m', a, b, c, d⟩ | rfl)
      · obtain ⟨j', h'⟩ := List.getElem?_of_mem a
        refine ⟨m', a, b, ?_, d⟩
        refine (ho j' m' h' ?_).2 c
        rintro rfl
        rw [hj] at h'
        cases h'
        exact hnf c
      · exact ⟨m, List.mem_of_getElem? hj, hu, hf, hle, rfl⟩
    · rintro ⟨m', a, b, c, d, rfl⟩
      obtain ⟨j', h'⟩ := List.getElem?_of_mem a
      by_cases e : j' = j
      · subst e
        rw [hj] at h'
        cases h'
        exact .inr rfl
      · exact .inl ⟨m', a, b, (ho j' m' h' e).1 c, d, rfl⟩
  · rw [I.told k]
    constructor
    · rintro ⟨m', a, b, c⟩
      refine ⟨m', a, (ho k m' a ?_).2 b, c⟩
      rintro rfl
      rw [hj] at a
      cases a
      exact hnf b
    · rintro ⟨m', a, b, c⟩
      refine ⟨m', a, (ho k m' a ?_).1 b, c⟩
      rintro rfl
      rw [hj] at a
      cases a
      rcases c with c | c
      · rw [hu] at c; cases c
      · omega
  · obtain ⟨j', h'⟩ := List.getElem?_of_mem a
    have hd := I.fin m' a b c
    refine (ho j' m' h' ?_).2 hd
    rintro rfl
    rw [hj] at h'
    cases h'
    exact hnf hd
theorem nodup_of_map {α β : Type} {f : α → β} {l : List α} (h : (l.map f).Nodup) : l.Nodup := by
  induction l with
  | nil => exact List.nodup_nil
  | cons x l ih =>
    rw [List.map_cons, List.nodup_cons] at h
    rw [List.nodup_cons]
    exact ⟨fun hx => h.1 (List.mem_map.2 ⟨x, hx, rfl⟩), ih h.2⟩
theorem Inv.put {first : Int} {Ms : List M} (G : Good first Ms) (Q : Seqs Ms) (hd : ∀ a ∈ allP Ms, badF a = false) {D : List A} {x : S} {idx : List Nat} (I : Inv Ms D x idx) (hx : x.ok) {p : A} (hp : p ∈ allP Ms) (hn : p ∉ D) :
    ∃ x' js, putF x p = (x', js.map (toG Ms), 0) ∧ Inv Ms (D ++ [p]) x' (idx ++ js) := by
  have hheld : ∀ a ∈ x.held, a ∈ D := fun a ha => ((I.held a).1 ha).1
  have hs : ∀ a ∈ x.held ++ [p], a ∈ allP Ms := by
    intro a ha
    rcases List.mem_append.1 ha with h | h
    · exact I.sub a (hheld a h)
    · rw [List.mem_singleton] at h; subst h; exact hp
  have hlen : x.held.length ≤ 300 := Nat.le_trans (nodup_le (nodup_of_map hx.1.2.1) (fun a ha => I.sub a (hheld a ha))) G.len
  have hg : getH x.held p.tsn = none := by
    cases h : getH x.held p.tsn with
    | none => rfl
    | some a =>
      obtain ⟨h1, h2⟩ := getH_mem h
      have := G.tsn_inj (I.sub a (hheld a h1)) hp h2
      subst this
      exact absurd (hheld _ h1) hn
  obtain ⟨K, hK⟩ := List.getElem?_of_mem hp
  obtain ⟨j, m, i, hj, hi, _⟩ := loc hK
  have hpm : p ∈ m.ps := List.mem_of_getElem? hi
  have hmM : m ∈ Ms := List.mem_of_getElem? hj
  have hnf : ¬ full D m := fun h => hn (h p hpm)
  have ho : ∀ j' m', Ms[j']? = some m' → j' ≠ j → (full (D ++ [p]) m' ↔ full D m') := fun j' m' h' e => full_more G hj hpm h' e
  have hsub : ∀ a ∈ D ++ [p], a ∈ allP Ms := by
    intro a ha
    rcases List.mem_append.1 ha with h | h
    · exact I.sub a h
    · rw [List.mem_singleton] at h; subst h; exact hp
  have hfull : (∀ a ∈ m.ps, a ∈ x.held ++ [p]) ↔ full (D ++ [p]) m := by
    constructor
    · intro h a ha
      rcases List.mem_append.1 (h a ha) with h1 | h1
      · exact List.mem_append.2 (.inl (hheld a h1))
      · exact List.mem_append.2 (.inr h1)
    · intro h a ha
      rcases List.mem_append.1 (h a ha) with h1 | h1
      · exact List.mem_append.2 (.inl ((I.held a).2 ⟨h1, m, hmM, ha, hnf⟩))
      · exact List.mem_append.2 (.inr h1)
  obtain ⟨c1, c2, c3, _, _⟩ := (G.ok m hmM).2 i p hi
  unfold putF
  rw [hd p hp, if_neg (by simp), hg, if_neg (by simp), if_neg (by omega)]
  by_cases hf : full (D ++ [p]) m
  · have hw := whole_full G hs hj hi (hfull.2 hf)
    have h0 : 0 < m.ps.length := List.length_pos_iff.2 (G.ok m hmM).1
    obtain ⟨n, hn1⟩ : ∃ n, m.ps.length = n + 1 := ⟨m.ps.length - 1, by omega⟩
    have ht := take_own G hj (n + 1) 0 (h := x.held ++ [p]) (acc := []) (by omega) hs (by rw [List.drop_zero]; exact hfull.2 hf)
    rw [List.drop_zero, show ((off Ms j + 0 : Nat) : Int) = (off Ms j : Int) from rfl, List.nil_append] at ht
    rw [hn1] at hw
    rw [hw]
    simp only
    rw [ht]
    simp only
    have hheld' : ∀ a, a ∈ ((x.held ++ [p]).filter fun b => decide (b ∉ m.ps)) ↔ a ∈ D ++ [p] ∧ ∃ m' ∈ Ms, a ∈ m'.ps ∧ ¬ full (D ++ [p]) m' := by
      intro a
      rw [List.mem_filter, decide_eq_true_iff]
      constructor
      · rintro ⟨h1, h2⟩
        rcases List.mem_append.1 h1 with h3 | h3
        · obtain ⟨h4, m', h5, h6, h7⟩ := (I.held a).1 h3
          refine ⟨List.mem_append.2 (.inl h4), m', h5, h6, ?_⟩
          obtain ⟨j', h'⟩ := List.getElem?_of_mem h5
          rw [ho j' m' h' ?_]
          · exact h7
          · rintro rfl
            rw [hj] at h'
            cases h'
            exact h2 h6
        · rw [List.mem_singleton] at h3
          subst h3
          exact absurd hpm h2
      · rintro ⟨h1, m', h2, h3, h4⟩
        obtain ⟨j', h'⟩ := List.getElem?_of_mem h2
        have hne : j' ≠ j := by
          rintro rfl
          rw [hj] at h'
          cases h'
          exact h4 hf
        have hnm : a ∉ m.ps := fun h => hne (G.one h' hj h3 h)
        rcases List.mem_append.1 h1 with h5 | h5
        · exact ⟨List.mem_append.2 (.inl ((I.held a).2 ⟨h5, m', h2, h3, fun h => h4 ((ho j' m' h' hne).2 h)⟩)), hnm⟩
        · rw [List.mem_singleton] at h5
          subst h5
          exact absurd hpm hnm
    have hto : toG Ms j = ⟨m.s, m.data⟩ := by unfold toG; rw [hj]
    by_cases hu : m.un = true
    · rw [c3, hu, if_pos rfl]
      refine ⟨{ x with held := (x.held ++ [p]).filter fun b => decide (b ∉ m.ps) }, [j], by rw [List.map_cons, List.map_nil, hto, ← c1]; rfl, hsub, hheld', I.o.addU hj hu hnf hf ho, ?_⟩
      intro m' h1 h2 h3
      obtain ⟨j', h'⟩ := List.getElem?_of_mem h1
      refine I.stop m' h1 h2 ((ho j' m' h' ?_).1 h3)
      rintro rfl
      rw [hj] at h'
      cases h'
      rw [hu] at h2
      cases h2
    · have hu' : m.un = false := by simpa using hu
      obtain ⟨hwn, hO⟩ := I.o.addO Q hj hu' hnf hf ho
      rw [c3, hu', if_neg (by simp)]
      have hwf : waitF x.wait p (m.ps.flatMap (·.data)) = x.wait ++ [⟨m.s, m.q, m.data⟩] := by
        unfold waitF
        rw [c1, c2, hwn]
        rfl
      rw [hwf, c1]
      obtain ⟨js, r1, r2, r3, r4⟩ := hO.ready Q m.s.toNat ((x.wait ++ [(⟨m.s, m.q, m.data⟩ : T)]).length + 1) (out := []) (Nat.lt_succ_self _)
      refine ⟨⟨(x.held ++ [p]).filter fun b => decide (b ∉ m.ps), (readyF ((x.wait ++ [(⟨m.s, m.q, m.data⟩ : T)]).length + 1) (x.wait ++ [(⟨m.s, m.q, m.data⟩ : T)]) x.next m.s.toNat []).1, (readyF ((x.wait ++ [(⟨m.s, m.q, m.data⟩ : T)]).length + 1) (x.wait ++ [(⟨m.s, m.q, m.data⟩ : T)]) x.next m.s.toNat []).2.1⟩, js, ?_, hsub, hheld', r2, ?_⟩
      · rw [List.nil_append] at r1
        rw [← r1]
      intro m' h1 h2 h3
      show m'.q ≠ (readyF _ _ _ _ _).2.1 m'.s.toNat
      obtain ⟨j', h'⟩ := List.getElem?_of_mem h1
      by_cases e : m'.s.toNat = m.s.toNat
      · rw [e]
        intro e2
        have hmem := (r2.wait (⟨m'.s, m'.q, m'.data⟩ : T)).2 ⟨m', h1, h2, h3, (by rw [e, e2]; exact Int.le_refl _), rfl⟩
        have hgw := getW_of r2.nod hmem
        have hst := Q.st m' h1
        have hst2 := Q.st m hmM
        simp only at hgw
        rw [show m'.s = (m.s.toNat : Int) by omega, e2, r3] at hgw
        cases hgw
      · rw [r4 _ e]
        refine I.stop m' h1 h2 ((ho j' m' h' ?_).1 h3)
        rintro rfl
        rw [hj] at h'
        cases h'
        exact e rfl
  · have hw : (wholeF (x.held ++ [p]) p).2 = 0 := whole_part G hs (by rw [List.length_append, List.length_singleton]; omega) hj hi (List.mem_append.2 (.inr (List.mem_singleton.2 rfl))) (fun h => hf (hfull.1 h))
    rcases hwe : wholeF (x.held ++ [p]) p with ⟨F, n⟩
    rw [hwe] at hw
    simp only at hw
    subst hw
    simp only
    have hall : ∀ m' ∈ Ms, full (D ++ [p]) m' ↔ full D m' := by
      intro m' h1
      obtain ⟨j', h'⟩ := List.getElem?_of_mem h1
      by_cases e : j' = j
      · subst e
        rw [hj] at h'
        cases h'
        exact ⟨fun h => absurd h hf, fun h => absurd h hnf⟩
      · exact ho j' m' h' e
    refine ⟨{ x with held := x.held ++ [p] }, [], rfl, hsub, ?_, by rw [List.append_nil]; exact I.o.congr hall, fun m' h1 h2 h3 => I.stop m' h1 h2 ((hall m' h1).1 h3)⟩
    intro a
    show a ∈ x.held ++ [p] ↔ _
    constructor
    · intro h1
      rcases List.mem_append.1 h1 with h3 | h3
      · obtain ⟨h4, m', h5, h6, h7⟩ := (I.held a).1 h3
        exact ⟨List.mem_append.2 (.inl h4), m', h5, h6, fun h => h7 ((hall m' h5).1 h)⟩
      · refine ⟨List.mem_append.2 (.inr h3), m, hmM, ?_, hf⟩
        rw [List.mem_singleton] at h3
        subst h3
        exact hpm
    · rintro ⟨h1, m', h2, h3, h4⟩
      rcases List.mem_append.1 h1 with h5 | h5
      · exact List.mem_append.2 (.inl ((I.held a).2 ⟨h5, m', h2, h3, fun h => h4 ((hall m' h2).2 h)⟩))
      · exact List.mem_append.2 (.inr h5)
end Go.Proofs.Yteiiifonejkjbaa.Fa
/-
  Plain, for FragAll: where all pieces have been put nothing is held, each message was told once, and the ordered ones of a stream in their order. No program.
-/
namespace Go.Proofs.Yteiiifonejkjbaa.Fa
open Go.RowKit Mem Cells Ops Pcs Go.Maps Go.Proofs.Yteiiifonejkjbaa.Open Go.Proofs.Yteiiifonejkjbaa.Bx Go.Proofs.Yteiiifonejkjbaa.Rb
set_option linter.unusedVariables false
set_option linter.unusedSimpArgs false

theorem Inv.start {Ms : List M} (Q : Seqs Ms) (hok : ∀ m ∈ Ms, m.ok) : Inv Ms [] s0 [] := by
  have hno : ∀ m ∈ Ms, ¬ full [] m := by
    intro m hm h
    obtain ⟨a, ha⟩ := List.exists_mem_of_ne_nil _ (hok m hm).1
    exact absurd (h a ha) List.not_mem_nil
  refine ⟨fun a ha => (by cases ha), fun a => ⟨fun ha => (by cases ha), fun ha => (by cases ha.1)⟩, ⟨by simp [s0], fun y => ⟨fun ha => (by cases ha), ?_⟩, fun j => ⟨fun ha => (by cases ha), ?_⟩, List.nodup_nil, List.Pairwise.nil, fun t => Int.le_refl _, ?_⟩, ?_⟩
  · rintro ⟨m, h1, h2, h3, _⟩
    exact absurd h3 (hno m h1)
  · rintro ⟨m, h1, h2, _⟩
    exact absurd h2 (hno m (List.mem_of_getElem? h1))
  · intro m hm hu hq
    have h1 : m.q < 0 := hq
    have h2 := (Q.qb m hm hu).1
    omega
  · intro m h1 h2 h3
    exact absurd h3 (hno m h1)
theorem Inv.all {Ms : List M} (Q : Seqs Ms) {D : List A} {x : S} {idx : List Nat} (I : Inv Ms D x idx) (hall : ∀ a ∈ allP Ms, a ∈ D) : x.held = [] ∧ idx.Perm (List.range Ms.length) := by
  have hf : ∀ m ∈ Ms, full D m := fun m hm a ha => hall a (mem_all hm ha)
  refine ⟨?_, ?_⟩
  · cases hh : x.held with
    | nil => rfl
    | cons a l =>
      exfalso
      obtain ⟨_, m, h1, _, h2⟩ := (I.held a).1 (by rw [hh]; exact List.mem_cons_self)
      exact h2 (hf m h1)
  · refine (List.perm_ext_iff_of_nodup I.o.idn List.nodup_range).2 fun j => ?_
    rw [I.o.told j, List.mem_range]
    constructor
    · rintro ⟨m, h1, _⟩
      exact (List.getElem?_eq_some_iff.1 h1).1
    · intro hj
      refine ⟨Ms[j], List.getElem?_eq_getElem hj, hf _ (List.getElem_mem hj), ?_⟩
      have hm : Ms[j] ∈ Ms := List.getElem_mem hj
      cases hu : Ms[j].un with
      | true => exact .inl rfl
      | false =>
        right
        rcases Int.lt_trichotomy Ms[j].q (x.next Ms[j].s.toNat) with h | h | h
        · exact h
        · exact absurd h (I.stop _ hm hu (hf _ hm))
        · exfalso
          obtain ⟨m', h1, h2, h3, h4⟩ := Q.low _ hm hu _ (I.o.nn _) h
          exact I.stop m' h1 h2 (hf m' h1) (by rw [h4, h3])
/-- The ordered ones of stream s. -/
def isO (Ms : List M) (s : Int) (j : Nat) : Bool := match Ms[j]? with
  | some m => m.s == s && !m.un
  | none => false
theorem sub_told {Ms : List M} {D : List A} {l : List T} {nx : Nat → Int} {idx : List Nat} (I : InvO Ms D l nx idx) (hp : idx.Perm (List.range Ms.length)) (s : Int) :
    (((List.range Ms.length).filter (isO Ms s)).map (toG Ms)).Sublist (idx.map (toG Ms)) := by
  have key : (List.range Ms.length).filter (isO Ms s) = idx.filter (isO Ms s) := by
    refine List.Perm.eq_of_pairwise (le := fun a b => a < b) (fun a b _ _ h1 h2 => by omega) (List.Pairwise.filter _ List.pairwise_lt_range) ?_ (hp.symm.filter _)
    have h1 := List.Pairwise.filter (isO Ms s) I.ord
    refine List.Pairwise.imp_of_mem ?_ h1
    intro a b ha hb h
    have ha2 := (List.mem_filter.1 ha).2
    have hb2 := (List.mem_filter.1 hb).2
    unfold isO at ha2 hb2
    cases e1 : Ms[a]? with
    | none => rw [e1] at ha2; cases ha2
    | some ma =>
      cases e2 : Ms[b]? with
      | none => rw [e2] at hb2; cases hb2
      | some mb =>
        rw [e1] at ha2
        rw [e2] at hb2
        simp only [Bool.and_eq_true, beq_iff_eq, Bool.not_eq_true'] at ha2 hb2
        exact h ma mb e1 e2 ha2.2 hb2.2 (by rw [ha2.1, hb2.1])
  rw [key]
  exact List.Sublist.map _ List.filter_sublist
/-- One step of the search. -/
theorem search_step {α : Type} {x y : α} {l t : List α} (h : (x :: l).Sublist (y :: t)) : (x = y → l.Sublist t) ∧ (x ≠ y → (x :: l).Sublist t) := by
  constructor
  · rintro rfl
    exact List.cons_sublist_cons.1 h
  · intro hne
    cases h with
    | cons _ h => exact h
    | cons_cons _ h => exact absurd rfl hne
end Go.Proofs.Yteiiifonejkjbaa.Fa
/-
  Plain, for FragAll: what the law's own cut makes of messages (cutsF), and that this is messages in pieces, numbered one behind the other. No program.
-/
namespace Go.Proofs.Yteiiifonejkjbaa.Fa
open Go.RowKit Mem Cells Ops Pcs Go.Maps Go.Proofs.Yteiiifonejkjbaa.Open Go.Proofs.Yteiiifonejkjbaa.Bx Go.Proofs.Yteiiifonejkjbaa.Rb Chunk
set_option linter.unusedVariables false
set_option linter.unusedSimpArgs false

def numL (first : Int) : Nat → List A → List A
  | _, [] => []
  | o, a :: l => { a with tsn := stp first (o : Int) } :: numL first (o + 1) l
theorem numL_length (first : Int) : ∀ (o : Nat) (l : List A), (numL first o l).length = l.length
  | _, [] => rfl
  | o, a :: l => by simp [numL, numL_length first (o + 1) l]
theorem numL_get (first : Int) : ∀ (o : Nat) (l : List A) (i : Nat), (numL first o l)[i]? = (l[i]?).map fun a => { a with tsn := stp first ((o + i : Nat) : Int) }
  | _, [], i => by simp [numL]
  | o, a :: l, 0 => by simp [numL]
  | o, a :: l, i + 1 => by
    simp only [numL, List.getElem?_cons_succ]
    rw [numL_get first (o + 1) l i, show o + 1 + i = o + (i + 1) by omega]
theorem numL_data (first : Int) : ∀ (o : Nat) (l : List A), (numL first o l).flatMap (·.data) = l.flatMap (·.data)
  | _, [] => rfl
  | o, a :: l => by simp [numL, List.flatMap_cons, numL_data first (o + 1) l]
theorem numL_snoc (first : Int) : ∀ (o : Nat) (l : List A) (a : A), numL first o (l ++ [a]) = numL first o l ++ [{ a with tsn := stp first ((o + l.length : Nat) : Int) }]
  | o, [], a => by simp [numL]
  | o, b :: l, a => by
    simp only [numL, List.cons_append, List.length_cons]
    rw [numL_snoc first (o + 1) l a, show o + 1 + l.length = o + (l.length + 1) by omega]
def cutsF (first : Int) : List C → (Nat → Int) → List A → Option (List A)
  | [], _, out => some out
  | x :: xs, nx, out => if (cutF nx x).2.2 ≠ 0 ∨ 300 < out.length + (cutF nx x).1.length then none else cutsF first xs (cutF nx x).2.1 (out ++ numL first out.length (cutF nx x).1)
theorem chunks (xs : List Int) (z : Nat) : ∀ n, (List.range n).flatMap (fun i => (xs.drop (i * z)).take z) = xs.take (n * z)
  | 0 => by simp
  | n + 1 => by
    rw [List.range_succ, List.flatMap_append, chunks xs z n, Nat.succ_mul, List.take_add]
    simp
/-- What is known of messages already cut. -/
structure Cutd (first : Int) (al : List C) (nx : Nat → Int) (out : List A) (Ms : List M) : Prop where
  pcs : out = allP Ms
  good : Good first Ms
  seqs : Seqs Ms
  bad : ∀ a ∈ out, badF a = false ∧ a.ok
  len : Ms.length = al.length
  at_ : ∀ (j : Nat) (x : C), al[j]? = some x → ∃ m, Ms[j]? = some m ∧ m.s = x.s ∧ m.un = x.un ∧ m.data = x.data
  nx0 : ∀ s, 0 ≤ nx s ∧ nx s ≤ Ms.length
  lt : ∀ m ∈ Ms, m.un = false → m.q < nx m.s.toNat
  has : ∀ (s : Nat) (v : Int), 0 ≤ v → v < nx s → s < 8 → ∃ m ∈ Ms, m.un = false ∧ m.s = (s : Int) ∧ m.q = v
theorem Cutd.start (first : Int) : Cutd first [] (fun _ => 0) [] [] :=
  ⟨rfl, ⟨fun m hm => (by cases hm), fun i a h => (by simp [allP] at h), Nat.zero_le _⟩, ⟨fun m hm => (by cases hm), fun m hm => (by cases hm), fun a b ma mb h => (by simp at h), fun m hm => (by cases hm)⟩, fun a h => (by cases h), rfl, fun j x h => (by simp at h), fun s => ⟨Int.le_refl _, Int.le_refl _⟩, fun m hm => (by cases hm), fun s v h1 h2 => (by omega)⟩
theorem allP_snoc (Ms : List M) (m : M) : allP (Ms ++ [m]) = allP Ms ++ m.ps := by simp [allP]
theorem Cutd.step {first : Int} {al : List C} {nx : Nat → Int} {out : List A} {Ms : List M} (I : Cutd first al nx out Ms) (x : C) (hx : x.ok) (hal : al.length < 500) (h0 : (cutF nx x).2.2 = 0) (hl : out.length + (cutF nx x).1.length ≤ 300) :
    ∃ m, Cutd first (al ++ [x]) (cutF nx x).2.1 (out ++ numL first out.length (cutF nx x).1) (Ms ++ [m]) := by
  obtain ⟨s, xs, un, z⟩ := x
  obtain ⟨⟨a1, a2⟩, a3, a4, a5⟩ := hx
  simp only at a1 a2 a3 a4 a5
  have hE : cutE false xs.length s z = 0 := by
    by_cases h : cutE false xs.length s z = 0
    · exact h
    · exfalso
      unfold cutF at h0
      simp only at h0
      rw [if_neg h] at h0
      exact h h0
  obtain ⟨k1, k2, ⟨s', rfl, k3, k4⟩, sz, rfl, k5, k6, k7⟩ := cutE_0 a1 hE
  have hc : cutF nx ⟨(s' : Int), xs, un, (sz : Int)⟩ = (PE s' (cutSq un nx s') un xs sz ((xs.length + sz - 1) / sz), cutNx un nx s', 0) := by
    unfold cutF
    simp only [hE, if_true, k4, k7]
  rw [hc] at hl ⊢
  simp only at hl ⊢
  obtain ⟨n, hn⟩ : ∃ n, (xs.length + sz - 1) / sz = n := ⟨_, rfl⟩
  rw [hn] at hl ⊢
  have hdm := Nat.div_add_mod (xs.length + sz - 1) sz
  have hml := Nat.mod_lt (xs.length + sz - 1) k5
  rw [hn, Nat.mul_comm] at hdm
  have hnz : xs.length ≤ n * sz := by omega
  have hlow : ∀ i, i < n → i * sz < xs.length := by
    intro i hi
    have h1 : (i + 1) * sz ≤ n * sz := Nat.mul_le_mul_right _ hi
    rw [Nat.succ_mul] at h1
    omega
  have hn0 : 0 < n := by
    rcases Nat.eq_zero_or_pos n with h | h
    · rw [h] at hnz; omega
    · exact h
  have hget : ∀ (i : Nat) (a : A), (numL first out.length (PE s' (cutSq un nx s') un xs sz n))[i]? = some a → i < n ∧ a = ⟨stp first ((out.length + i : Nat) : Int), s', cutSq un nx s', decide (i = 0), decide (i + 1 = n), un, (xs.drop (i * sz)).take sz⟩ := by
    intro i a h
    rw [numL_get] at h
    by_cases hi : i < n
    · rw [show (PE s' (cutSq un nx s') un xs sz n)[i]? = some ⟨0, s', cutSq un nx s', decide (i = 0), decide (i + 1 = n), un, (xs.drop (i * sz)).take sz⟩ by simp [PE, hi]] at h
      simp only [Option.map_some, Option.some.injEq] at h
      exact ⟨hi, h.symm⟩
    · rw [List.getElem?_eq_none (by rw [PE_length]; omega)] at h
      cases h
  have hpl : (numL first out.length (PE s' (cutSq un nx s') un xs sz n)).length = n := by rw [numL_length, PE_length]
  obtain ⟨ps, hps⟩ : ∃ ps, numL first out.length (PE s' (cutSq un nx s') un xs sz n) = ps := ⟨_, rfl⟩
  have hdat : ps.flatMap (·.data) = xs := by
    rw [← hps, numL_data]
    unfold PE
    rw [List.flatMap_map]
    have := chunks xs sz n
    rw [List.take_of_length_le hnz] at this
    exact this
  rw [hps] at hget hpl ⊢
  have hnxs := I.nx0 s'
  have hml2 := I.len
  have hcw : cutNx un nx s' = if un = true then nx else upd nx s' (nx s' + 1) := by
    unfold cutNx
    rw [Bx.wrap16, show (nx s' + 1) % 65536 = nx s' + 1 by omega]
  have hup : un = false → ∀ t, cutNx un nx s' t = if t = s' then nx s' + 1 else nx t := by
    intro hu t
    rw [hcw, hu, if_neg (by simp)]
    rfl
  have hun : un = true → cutNx un nx s' = nx := by
    intro hu
    rw [hcw, if_pos hu]
  have hsq : un = false → cutSq un nx s' = nx s' := by intro hu; unfold cutSq; rw [hu]; rfl
  have hout := I.pcs
  refine ⟨⟨s', cutSq un nx s', un, ps⟩, ?_⟩
  have hmem : ∀ m' ∈ Ms ++ [(⟨s', cutSq un nx s', un, ps⟩ : M)], m' ∈ Ms ∨ m' = ⟨s', cutSq un nx s', un, ps⟩ := by
    intro m' h
    rcases List.mem_append.1 h with h | h
    · exact .inl h
    · exact .inr (List.mem_singleton.1 h)
  have hidx : ∀ (j : Nat) (m' : M), (Ms ++ [(⟨s', cutSq un nx s', un, ps⟩ : M)])[j]? = some m' → (j < Ms.length ∧ Ms[j]? = some m') ∨ (j = Ms.length ∧ m' = ⟨s', cutSq un nx s', un, ps⟩) := by
    intro j m' h
    by_cases hj : j < Ms.length
    · rw [List.getElem?_append_left hj] at h
      exact .inl ⟨hj, h⟩
    · rw [List.getElem?_append_right (by omega)] at h
      have hj2 := (List.getElem?_eq_some_iff.1 h).1
      simp only [List.length_singleton] at hj2
      have : j - Ms.length = 0 := by omega
      rw [this] at h
      simp at h
      exact .inr ⟨by omega, h.symm⟩
  refine ⟨?_, ⟨?_, ?_, ?_⟩, ⟨?_, ?_, ?_, ?_⟩, ?_, ?_, ?_, ?_, ?_, ?_⟩
  · rw [allP_snoc, ← hout]
  · intro m' h
    rcases hmem m' h with h | rfl
    · exact I.good.ok m' h
    · refine ⟨List.length_pos_iff.1 (by rw [hpl]; exact hn0), fun i a h => ?_⟩
      obtain ⟨b1, b2⟩ := hget i a h
      subst b2
      refine ⟨rfl, rfl, rfl, rfl, ?_⟩
      show decide (i + 1 = n) = decide (i + 1 = ps.length)
      rw [hpl]
  · intro i a h
    rw [allP_snoc, ← hout] at h
    by_cases hi : i < out.length
    · rw [List.getElem?_append_left hi, hout] at h
      exact I.good.tsn i a h
    · rw [List.getElem?_append_right (by omega)] at h
      obtain ⟨b1, b2⟩ := hget _ a h
      subst b2
      show stp first _ = _
      rw [show out.length + (i - out.length) = i by omega]
  · rw [allP_snoc, ← hout, List.length_append, hpl]
    rw [PE_length] at hl
    exact hl
  · intro m' h
    rcases hmem m' h with h | rfl
    · exact I.seqs.st m' h
    · exact ⟨by show (0 : Int) ≤ (s' : Int); omega, by show (s' : Int) < 8; omega⟩
  · intro m' h hu
    rcases hmem m' h with h | rfl
    · exact I.seqs.qb m' h hu
    · have hu' : un = false := hu
      show 0 ≤ cutSq un nx s' ∧ cutSq un nx s' < 1000
      rw [hsq hu']
      omega
  · intro a b ma mb ha hb ua ub hs
    rcases hidx a ma ha with ⟨c1, c2⟩ | ⟨c1, rfl⟩
    · rcases hidx b mb hb with ⟨d1, d2⟩ | ⟨d1, rfl⟩
      · exact I.seqs.mono a b ma mb c2 d2 ua ub hs
      · have hu' : un = false := ub
        have h1 := I.lt ma (List.mem_of_getElem? c2) ua
        have hs' : ma.s = (s' : Int) := hs
        rw [hs', Int.toNat_natCast] at h1
        show _ ↔ ma.q < cutSq un nx s'
        rw [hsq hu']
        exact ⟨fun _ => h1, fun _ => by omega⟩
    · rcases hidx b mb hb with ⟨d1, d2⟩ | ⟨d1, rfl⟩
      · have hu' : un = false := ua
        have h1 := I.lt mb (List.mem_of_getElem? d2) ub
        have hs' : (s' : Int) = mb.s := hs
        rw [← hs', Int.toNat_natCast] at h1
        show _ ↔ cutSq un nx s' < mb.q
        rw [hsq hu']
        exact ⟨fun h => by omega, fun h => by omega⟩
      · exact ⟨fun h => by omega, fun h => by omega⟩
  · intro m' h hu v v0 v1
    rcases hmem m' h with h | rfl
    · obtain ⟨m2, e1, e2⟩ := I.seqs.low m' h hu v v0 v1
      exact ⟨m2, List.mem_append.2 (.inl e1), e2⟩
    · have hu' : un = false := hu
      have v1' : v < cutSq un nx s' := v1
      rw [hsq hu'] at v1'
      obtain ⟨m2, e1, e2, e3, e4⟩ := I.has s' v v0 v1' k3
      exact ⟨m2, List.mem_append.2 (.inl e1), e2, e3, e4⟩
  · intro a ha
    rcases List.mem_append.1 ha with h | h
    · exact I.bad a h
    · obtain ⟨i, hi⟩ := List.getElem?_of_mem h
      obtain ⟨b1, b2⟩ := hget i a hi
      subst b2
      have := hlow i b1
      refine ⟨?_, u32_wrap _, ⟨by show (0 : Int) ≤ (s' : Int); omega, by show (s' : Int) ≤ 65535; omega⟩, ?_, fun z hz => a3 z (List.mem_of_mem_drop (List.mem_of_mem_take hz))⟩
      · unfold badF
        rw [decide_eq_false_iff_not]
        simp only [List.length_take, List.length_drop, not_or]
        refine ⟨by omega, by omega, by omega⟩
      · show 0 ≤ cutSq un nx s' ∧ cutSq un nx s' ≤ 65535
        unfold cutSq
        split <;> omega
  · rw [List.length_append, List.length_append, hml2]; rfl
  · intro j y hy
    by_cases hj : j < al.length
    · rw [List.getElem?_append_left hj] at hy
      obtain ⟨m', e1, e2⟩ := I.at_ j y hy
      exact ⟨m', by rw [List.getElem?_append_left (by omega)]; exact e1, e2⟩
    · rw [List.getElem?_append_right (by omega)] at hy
      have hj2 := (List.getElem?_eq_some_iff.1 hy).1
      simp only [List.length_singleton] at hj2
      have hz : j - al.length = 0 := by omega
      rw [hz] at hy
      simp at hy
      subst hy
      refine ⟨⟨s', cutSq un nx s', un, ps⟩, ?_, rfl, rfl, hdat⟩
      rw [List.getElem?_append_right (by omega), show j - Ms.length = 0 by omega]
      rfl
  · intro t
    have h1 := I.nx0 t
    rw [List.length_append, List.length_singleton]
    cases hu : un with
    | true => rw [← hu, hun hu]; omega
    | false =>
      rw [← hu, hup hu t]
      split <;> omega
  · intro m' h hu
    rcases hmem m' h with h | rfl
    · have h1 := I.lt m' h hu
      cases hv : un with
      | true => rw [← hv, hun hv]; exact h1
      | false =>
        rw [← hv, hup hv]
        split
        · rename_i e; rw [e] at h1; omega
        · exact h1
    · have hu' : un = false := hu
      show cutSq un nx s' < cutNx un nx s' ((s' : Int)).toNat
      rw [hsq hu', hup hu', Int.toNat_natCast, if_pos rfl]
      omega
  · intro t v v0 v1 ht
    by_cases hv : un = true
    · rw [hun hv] at v1
      obtain ⟨m2, e1, e2⟩ := I.has t v v0 v1 ht
      exact ⟨m2, List.mem_append.2 (.inl e1), e2⟩
    · have hv : un = false := by simpa using hv
      rw [hup hv] at v1
      have old : v < nx t → ∃ m ∈ Ms ++ [(⟨s', cutSq un nx s', un, ps⟩ : M)], m.un = false ∧ m.s = (t : Int) ∧ m.q = v := by
        intro v2
        obtain ⟨m2, e1, e2⟩ := I.has t v v0 v2 ht
        exact ⟨m2, List.mem_append.2 (.inl e1), e2⟩
      split at v1
      · rename_i e
        subst e
        by_cases e2 : v = nx t
        · refine ⟨⟨t, cutSq un nx t, un, ps⟩, List.mem_append.2 (.inr (List.mem_singleton.2 rfl)), hv, rfl, ?_⟩
          show cutSq un nx t = v
          rw [hsq hv, e2]
        · exact old (by omega)
      · exact old v1
theorem cutsF_ok {first : Int} : ∀ (l : List C) {al : List C} {nx : Nat → Int} {out : List A} {Ms : List M} {res : List A}, Cutd first al nx out Ms → (∀ x ∈ l, x.ok) → al.length + l.length < 500 → cutsF first l nx out = some res → ∃ nx' Ms', Cutd first (al ++ l) nx' res Ms'
  | [], al, nx, out, Ms, res, I, hok, hl, h => by
    simp only [cutsF, Option.some.injEq] at h
    subst h
    exact ⟨nx, Ms, by rw [List.append_nil]; exact I⟩
  | x :: l, al, nx, out, Ms, res, I, hok, hl, h => by
    unfold cutsF at h
    split at h
    · cases h
    · rename_i hc
      simp only [List.length_cons] at hl
      obtain ⟨m, I'⟩ := I.step x (hok x List.mem_cons_self) (by omega) (by by_cases e : (cutF nx x).2.2 = 0; exact e; exact absurd (.inl e) hc) (by omega)
      obtain ⟨nx', Ms', I2⟩ := cutsF_ok l I' (fun y hy => hok y (List.mem_cons_of_mem _ hy)) (by simp; omega) h
      exact ⟨nx', Ms', by rw [List.append_assoc] at I2; exact I2⟩
end Go.Proofs.Yteiiifonejkjbaa.Fa
