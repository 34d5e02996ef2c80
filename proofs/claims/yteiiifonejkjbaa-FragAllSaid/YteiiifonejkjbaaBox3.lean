/-
  What comes into a box and goes out of it: its maps; plain laws of its functions. No walk.
-/
import Derived.Test.YteiiifonejkjbaaReady
namespace Go.Proofs.Yteiiifonejkjbaa.Bx
open Go.RowKit Mem Cells Ops Pcs Go.Maps Go.Proofs.Yteiiifonejkjbaa.Open
set_option linter.unusedVariables false
set_option linter.unusedSimpArgs false

theorem getH_rm_same (h : List A) (t : Int) : getH (rm h t) t = none := by
  unfold getH rm
  rw [List.find?_filter, List.find?_eq_none]
  intro y _
  cases hb : (y.tsn == t) <;> simp_all
theorem getH_rm_other (h : List A) {t u : Int} (hne : u ≠ t) : getH (rm h t) u = getH h u := by
  unfold getH rm
  rw [List.find?_filter]
  congr 1
  funext y
  by_cases e : y.tsn = u
  · have : y.tsn ≠ t := by rw [e]; exact hne
    simp [e, this, hne]
  · simp [e]
theorem rm_none {h : List A} {t : Int} (hn : ∀ a ∈ h, a.tsn ≠ t) : rm h t = h := by
  unfold rm
  rw [List.filter_eq_self]
  intro a ha
  simpa using hn a ha
theorem rm_length : ∀ {h : List A} {t : Int} {a : A}, (h.map (·.tsn)).Nodup → getH h t = some a → (rm h t).length + 1 = h.length
  | [], t, a, _, hg => by simp [getH] at hg
  | x :: h, t, a, hn, hg => by
    rw [List.map_cons, List.nodup_cons] at hn
    by_cases e : x.tsn = t
    · have h1 : rm (x :: h) t = rm h t := by simp [rm, e]
      rw [h1, rm_none (fun z hz e2 => hn.1 (List.mem_map.2 ⟨z, hz, by rw [e2, e]⟩))]
      rfl
    · have h1 : rm (x :: h) t = x :: rm h t := by simp [rm, e]
      have h2 : getH h t = some a := by
        unfold getH at hg ⊢
        rw [List.find?_cons, show (x.tsn == t) = false by simpa using e] at hg
        exact hg
      rw [h1, List.length_cons, List.length_cons, rm_length hn.2 h2]
theorem getH_app {h : List A} {p : A} (hn : getH h p.tsn = none) (t : Int) : getH (h ++ [p]) t = if t = p.tsn then some p else getH h t := by
  unfold getH at hn ⊢
  rw [List.find?_append]
  by_cases e : t = p.tsn
  · rw [if_pos e, e, hn]
    simp
  · rw [if_neg e]
    have : List.find? (fun a => a.tsn == t) [p] = none := by
      rw [List.find?_eq_none]
      intro a ha
      rw [List.mem_singleton] at ha
      subst ha
      simpa using fun e2 => e e2.symm
    rw [this]
    simp
theorem getH_none {h : List A} {t : Int} (hn : getH h t = none) : ∀ a ∈ h, a.tsn ≠ t := by
  intro a ha e
  unfold getH at hn
  rw [List.find?_eq_none] at hn
  have := hn a ha
  simp [e] at this
theorem getW_app {l : List T} {y : T} (hn : getW l y.s y.q = none) (s q : Int) : getW (l ++ [y]) s q = if s = y.s ∧ q = y.q then some y else getW l s q := by
  unfold getW at hn ⊢
  rw [List.find?_append]
  by_cases e : s = y.s ∧ q = y.q
  · rw [if_pos e, e.1, e.2, hn]
    simp
  · rw [if_neg e]
    have : List.find? (fun x => x.s == s && x.q == q) [y] = none := by
      rw [List.find?_eq_none]
      intro a ha
      rw [List.mem_singleton] at ha
      subst ha
      intro h2
      rw [Bool.and_eq_true, beq_iff_eq, beq_iff_eq] at h2
      exact e ⟨h2.1.symm, h2.2.symm⟩
    rw [this]
    simp
theorem getW_none {l : List T} {s q : Int} (hn : getW l s q = none) : ∀ y ∈ l, ¬ (y.s = s ∧ y.q = q) := by
  intro y hy e
  unfold getW at hn
  rw [List.find?_eq_none] at hn
  have := hn y hy
  simp [e] at this

/-- A piece that may come in. -/
def inOk (p : A) : Prop := p.ok ∧ 0 < p.data.length ∧ p.data.length ≤ 256 ∧ p.stream < 8
theorem inOk_of {p : A} (h : p.ok) (hb : badF p = false) : inOk p := by
  unfold badF at hb
  rw [decide_eq_false_iff_not] at hb
  exact ⟨h, by omega, by omega, by omega⟩
section
variable {w w' : World} {Z g b1 b2 : Nat} {x : S} {vs : Int → Value} {vw : Int → Int → Value} {m1 m2 : Lit → Option Value}
def updV (vs : Int → Value) (t : Int) (d : Value) : Int → Value := fun u => if u = t then d else vs u
def updW (vw : Int → Int → Value) (s q : Int) (d : Value) : Int → Int → Value := fun a b => if a = s ∧ b = q then d else vw a b
theorem S.ok_add (h : x.ok) {p : A} (hp : inOk p) (hn : getH x.held p.tsn = none) (hl : x.held.length < 512) : S.ok { x with held := x.held ++ [p] } := by
  obtain ⟨⟨h1, h2, h3⟩, h4⟩ := h
  refine ⟨⟨by simp; omega, ?_, fun a ha => ?_⟩, h4⟩
  · show ((x.held ++ [p]).map (·.tsn)).Nodup
    rw [List.map_append, List.nodup_append]
    refine ⟨h2, by simp, ?_⟩
    intro a ha b hb
    obtain ⟨z, hz, rfl⟩ := List.mem_map.1 ha
    rw [List.map_singleton, List.mem_singleton] at hb
    rw [hb]
    exact getH_none hn z hz
  · rcases List.mem_append.1 ha with ha | ha
    · exact h3 a ha
    · rw [List.mem_singleton] at ha
      subst ha
      exact hp
/-- A piece comes in. -/
theorem Has.addH (h : Has Z w g b1 b2 x vs vw m1 m2) (p : A) (d : Value) (hp : inOk p) (hd : Row .u8 5 Z w d p.data) (hn : getH x.held p.tsn = none) (hl : x.held.length < 512) :
    ∃ w', (Instr.mapUpdate 72 (.map (some b1)) (.int .u32 p.tsn) (.agg (Pcs.row p d).toArray)).run Try.prog w = .ok () w' ∧ Has Z w' g b1 b2 { x with held := x.held ++ [p] } (updV vs p.tsn d) vw (updM m1 (keyI p.tsn) (some (.agg (Pcs.row p d).toArray))) m2 ∧ w.grownBy w' (some b1) := by
  have hu : isU32 p.tsn := hp.1.1
  have hm : m1 (keyI p.tsn) = none := by rw [h.says1 _ hu, hn]; rfl
  obtain ⟨w', hrun, hmv, hg⟩ := h.map1.update keyed43 Try.underlying72 (by simp [maxLen]; omega) (.agg (Pcs.row p d).toArray) (keyOf43 p.tsn hu) hm
  refine ⟨w', hrun, ⟨at_map h.row hg h.map1.isMap, ?_, h.map2.kept hg (fun e => h.ne (Option.some.inj e).symm), h.ne, ?_, h.says2, ?_, fun y hy => row_map (h.rows2 y hy) hg h.map1.isMap, S.ok_add h.ok hp hn hl⟩, hg⟩
  · rw [List.length_append, List.length_singleton]; exact hmv
  · intro t ht
    rw [getH_app hn]
    by_cases e : t = p.tsn
    · subst e
      rw [updM_same, if_pos rfl]
      simp [updV]
    · rw [updM_other _ _ (fun e2 => e (keyI_inj e2)), if_neg e, h.says1 t ht]
      simp [updV, e]
  · intro a ha
    rcases List.mem_append.1 ha with ha | ha
    · have := row_map (h.rows1 a ha) hg h.map1.isMap
      rw [show updV vs p.tsn d a.tsn = vs a.tsn by simp [updV, getH_none hn a ha]]
      exact this
    · rw [List.mem_singleton] at ha
      subst ha
      rw [show updV vs a.tsn d a.tsn = d by simp [updV]]
      exact row_map hd hg h.map1.isMap
/-- A piece goes out. -/
theorem Has.dropH (h : Has Z w g b1 b2 x vs vw m1 m2) (t : Int) (ht : isU32 t) {a : A} (ha : getH x.held t = some a) (ty : TypeId) :
    ∃ w', (Builtin.delete_ #[72, 43] ty #[.map (some b1), .int .u32 t]).run Try.prog w = .ok (.tuple #[]) w' ∧ Has Z w' g b1 b2 { x with held := rm x.held t } vs vw (updM m1 (keyI t) none) m2 ∧ w.grownBy w' (some b1) := by
  have hm : m1 (keyI t) = some (.agg (Pcs.row a (vs t)).toArray) := by rw [h.says1 t ht, ha]; rfl
  obtain ⟨w', hrun, hmv, hg⟩ := h.map1.drop keyed43 Try.underlying72 (keyOf43 t ht) ty (by rw [hm]; rfl)
  have hlen := rm_length h.ok.1.2.1 ha
  refine ⟨w', hrun, ⟨at_map h.row hg h.map1.isMap, ?_, h.map2.kept hg (fun e => h.ne (Option.some.inj e).symm), h.ne, ?_, h.says2, fun z hz => row_map (h.rows1 z (List.mem_filter.1 hz).1) hg h.map1.isMap, fun y hy => row_map (h.rows2 y hy) hg h.map1.isMap, ?_⟩, hg⟩
  · rw [show (rm x.held t).length = x.held.length - 1 by omega]; exact hmv
  · intro u hu
    by_cases e : u = t
    · subst e
      rw [updM_same]
      show none = (getH (rm x.held u) u).map _
      rw [getH_rm_same]; rfl
    · rw [updM_other _ _ (fun e2 => e (keyI_inj e2)), h.says1 u hu]
      show _ = (getH (rm x.held t) u).map _
      rw [getH_rm_other _ e]
  · obtain ⟨⟨h1, h2, h3⟩, h4⟩ := h.ok
    refine ⟨⟨?_, (List.Sublist.map _ (List.filter_sublist (l := x.held))).nodup h2, fun z hz => h3 z (List.mem_filter.1 hz).1⟩, h4⟩
    show (rm x.held t).length ≤ 512
    omega
/-- A message begins to wait. -/
theorem Has.addW (h : Has Z w g b1 b2 x vs vw m1 m2) (y : T) (d : Value) (hs : isU16 y.s) (hq : isU16 y.q) (hb : bytesOk y.data) (h0 : 0 < y.data.length) (hle : y.data.length ≤ 140000) (hd : Row .u8 5 Z w d y.data) (hn : getW x.wait y.s y.q = none) (hl : x.wait.length ≤ 999999) :
    ∃ w', (Instr.mapUpdate 73 (.map (some b2)) (.agg #[.int .u16 y.s, .int .u16 y.q]) (.agg #[.int .u16 y.s, d])).run Try.prog w = .ok () w' ∧ Has Z w' g b1 b2 { x with wait := x.wait ++ [y] } vs (updW vw y.s y.q d) m1 (updM m2 (keyT y.s y.q) (some (.agg #[.int .u16 y.s, d]))) ∧ w.grownBy w' (some b2) := by
  have hm : m2 (keyT y.s y.q) = none := by rw [h.says2 _ _ hs hq, hn]; rfl
  obtain ⟨w', hrun, hmv, hg⟩ := h.map2.update keyed80 Try.underlying73 (by simp [maxLen]; omega) (.agg #[.int .u16 y.s, d]) (keyOf80 y.s y.q hs hq) hm
  refine ⟨w', hrun, ⟨at_map h.row hg h.map2.isMap, h.map1.kept hg (fun e => h.ne (Option.some.inj e)), ?_, h.ne, h.says1, ?_, fun a ha => row_map (h.rows1 a ha) hg h.map2.isMap, ?_, ?_⟩, hg⟩
  · rw [List.length_append, List.length_singleton]; exact hmv
  · intro s q hs' hq'
    rw [getW_app hn]
    by_cases e : s = y.s ∧ q = y.q
    · obtain ⟨rfl, rfl⟩ := e
      rw [updM_same, if_pos ⟨rfl, rfl⟩]
      simp [updW]
    · rw [updM_other _ _ (fun e2 => e (keyT_inj hs' hq' hs hq e2)), if_neg e, h.says2 s q hs' hq']
      simp [updW, e]
  · intro z hz
    rcases List.mem_append.1 hz with hz | hz
    · have := row_map (h.rows2 z hz) hg h.map2.isMap
      rw [show updW vw y.s y.q d z.s z.q = vw z.s z.q by simp only [updW]; rw [if_neg (getW_none hn z hz)]]
      exact this
    · rw [List.mem_singleton] at hz
      subst hz
      rw [show updW vw z.s z.q d z.s z.q = d by simp [updW]]
      exact row_map hd hg h.map2.isMap
  · obtain ⟨h1, ⟨h2, h3⟩, h4⟩ := h.ok
    refine ⟨h1, ⟨?_, fun z hz => ?_⟩, h4⟩
    · show ((x.wait ++ [y]).map fun y => (y.s, y.q)).Nodup
      rw [List.map_append, List.nodup_append]
      refine ⟨h2, by simp, ?_⟩
      intro a ha b hb2
      obtain ⟨z, hz, rfl⟩ := List.mem_map.1 ha
      rw [List.map_singleton, List.mem_singleton] at hb2
      rw [hb2]
      intro e
      exact getW_none hn z hz ⟨congrArg Prod.fst e, congrArg Prod.snd e⟩
    · rcases List.mem_append.1 hz with hz | hz
      · exact h3 z hz
      · rw [List.mem_singleton] at hz
        subst hz
        exact ⟨hs, hq, hb, h0, hle⟩
end

/-! What is whole is there. -/
theorem back_u32 : ∀ (f : Nat) {h : List A} {p q : A} {F R : Int}, isU32 F → backF f h p F q = some R → isU32 R
  | 0, h, p, q, F, R, _, e => by simp [backF] at e
  | f + 1, h, p, q, F, R, hu, e => by
    unfold backF at e
    split at e
    · cases e; exact hu
    · split at e
      · cases e
      · split at e
        · exact back_u32 f (u32_wrap _) e
        · cases e
theorem fwd_all : ∀ (f : Nat) {h : List A} {p : A} {F t : Int} {i n : Nat}, isU32 t → fwdF f h p F t i = some n → i < n ∧ n ≤ i + f ∧ ∀ k : Nat, i + k < n → (getH h (stp t (k : Int))).isSome = true
  | 0, h, p, F, t, i, n, _, e => by simp [fwdF] at e
  | f + 1, h, p, F, t, i, n, hu, e => by
    unfold fwdF at e
    split at e
    · cases e
    · rename_i q hq
      have h0 : (getH h (stp t ((0 : Nat) : Int))).isSome = true := by rw [show ((0 : Nat) : Int) = 0 from rfl, stp_0 hu, hq]; rfl
      split at e
      · split at e
        · cases e
          refine ⟨by omega, by omega, fun k hk => ?_⟩
          have : k = 0 := by omega
          subst this
          exact h0
        · obtain ⟨h1, h2, h3⟩ := fwd_all f (u32_wrap _) e
          refine ⟨by omega, by omega, fun k hk => ?_⟩
          rcases k with _ | k
          · exact h0
          · have := h3 k (by omega)
            unfold nxt at this
            rw [show stp (IntKind.u32.wrap (t + 1)) (k : Int) = stp t ((k + 1 : Nat) : Int) by unfold stp; rw [wrap32, wrap32, wrap32]; omega] at this
            exact this
      · cases e
theorem whole_all {h : List A} {p : A} {F : Int} {n : Nat} (hu : isU32 p.tsn) (hw : wholeF h p = (F, n + 1)) : isU32 F ∧ n + 1 ≤ h.length ∧ ∀ k : Nat, k < n + 1 → (getH h (stp F (k : Int))).isSome = true := by
  unfold wholeF at hw
  split at hw
  · cases hw
  · rename_i F' hb
    have hF := back_u32 600 hu hb
    split at hw
    · cases hw
    · rename_i n' hf
      cases hw
      obtain ⟨h1, h2, h3⟩ := fwd_all 600 hF hf
      refine ⟨hF, steps_le (t := F) 1 (.inl rfl) (by omega) (fun k hk => ?_), fun k hk => h3 k (by omega)⟩
      rw [show (1 * (k : Int)) = (k : Int) by omega]
      exact h3 k (by omega)
end Go.Proofs.Yteiiifonejkjbaa.Bx
