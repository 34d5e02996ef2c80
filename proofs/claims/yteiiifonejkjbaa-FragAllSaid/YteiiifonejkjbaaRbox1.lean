/-
  Plain: what the reference's search finds (fromF), and that it is what the program's whole finds; what is taken out of a list at its place. No program.
-/
import Derived.Test.YteiiifonejkjbaaRbox0
namespace Go.Proofs.Yteiiifonejkjbaa.Rb
open Go.RowKit Mem Cells Ops Pcs Go.Maps Go.Proofs.Yteiiifonejkjbaa.Open Go.Proofs.Yteiiifonejkjbaa.Bx
set_option linter.unusedVariables false
set_option linter.unusedSimpArgs false

/-- Goes on from the n-th piece; cur is the one ahead of it. -/
def goF : Nat → List A → A → Int → Nat → A → Nat
  | 0, _, _, _, _, _ => 0
  | f + 1, h, p, t, n, cur => if cur.en = true then n else match getH h (stp t (n : Int)) with
    | none => 0
    | some q => if q.bg = true ∨ alikeB q p = false then 0 else goF f h p t (n + 1) q
def fromF (h : List A) (t : Int) : Nat := match getH h t with
  | none => 0
  | some p => if p.bg = true then goF 600 h p t 1 p else 0
theorem alike_iff {p q : A} : alikeB p q = true ↔ p.stream = q.stream ∧ p.seq = q.seq ∧ p.un = q.un := by
  unfold alikeB; simp [and_assoc]
/-- m pieces from t on that are one whole message. -/
def Chain (h : List A) (t : Int) (m : Nat) : Prop := 0 < m ∧ ∃ q : Nat → A, ∀ i : Nat, i < m → getH h (stp t (i : Int)) = some (q i) ∧ alikeB (q i) (q 0) = true ∧ (q i).bg = decide (i = 0) ∧ (q i).en = decide (i + 1 = m)

theorem go_chain : ∀ (f : Nat) {h : List A} {p cur : A} {t : Int} {n : Nat} (q : Nat → A), 0 < n → q 0 = p → q (n - 1) = cur → (∀ i : Nat, i < n → getH h (stp t (i : Int)) = some (q i) ∧ alikeB (q i) p = true ∧ (q i).bg = decide (i = 0) ∧ (i + 1 < n → (q i).en = false)) →
    0 < goF f h p t n cur → Chain h t (goF f h p t n cur) ∧ n ≤ goF f h p t n cur
  | 0, h, p, cur, t, n, q, _, _, _, _, hm => by simp [goF] at hm
  | f + 1, h, p, cur, t, n, q, hn, h0, hc, hq, hm => by
    unfold goF at hm ⊢
    split at hm
    · rename_i he
      rw [if_pos he]
      refine ⟨⟨hn, q, fun i hi => ?_⟩, Nat.le_refl _⟩
      obtain ⟨a1, a2, a3, a4⟩ := hq i hi
      refine ⟨a1, h0 ▸ a2, a3, ?_⟩
      by_cases e : i + 1 = n
      · rw [show i = n - 1 by omega, hc, he]
        symm; rw [decide_eq_true_iff]; omega
      · rw [a4 (by omega)]
        symm; rw [decide_eq_false_iff_not]; exact e
    · rename_i he
      rw [if_neg he]
      split at hm
      · omega
      · rename_i r hr
        split at hm
        · omega
        · rename_i hb
          rw [if_neg hb]
          simp only [not_or, Bool.not_eq_true, Bool.not_eq_false] at hb
          have key := go_chain f (h := h) (p := p) (cur := r) (t := t) (n := n + 1) (fun i => if i < n then q i else r) (by omega) (by simp only [hn, if_true]; exact h0) (by simp) (by
            intro i hi
            by_cases e : i < n
            · obtain ⟨a1, a2, a3, a4⟩ := hq i e
              simp only [e, if_true]
              refine ⟨a1, a2, a3, fun h4 => ?_⟩
              by_cases e2 : i + 1 < n
              · exact a4 e2
              · rw [show i = n - 1 by omega, hc]; simpa using he
            · have ei : i = n := by omega
              subst ei
              simp only [e, if_false]
              refine ⟨hr, hb.2, ?_, by omega⟩
              rw [hb.1]; symm; rw [decide_eq_false_iff_not]; omega) hm
          exact ⟨key.1, by omega⟩
theorem from_chain {h : List A} {t : Int} (ht : isU32 t) (hm : 0 < fromF h t) : Chain h t (fromF h t) := by
  unfold fromF at hm ⊢
  split at hm
  · omega
  · rename_i p hp
    split at hm
    · rename_i hb
      rw [if_pos hb]
      refine (go_chain 600 (fun _ => p) (by omega) rfl rfl ?_ hm).1
      intro i hi
      have : i = 0 := by omega
      subst this
      refine ⟨by rw [show ((0 : Nat) : Int) = 0 from rfl, stp_0 ht]; exact hp, alike_iff.2 ⟨rfl, rfl, rfl⟩, by rw [hb]; rfl, by omega⟩
    · omega
theorem go_of : ∀ (f : Nat) {h : List A} {t : Int} {n m : Nat} (q : Nat → A), (∀ i : Nat, i < m → getH h (stp t (i : Int)) = some (q i) ∧ alikeB (q i) (q 0) = true ∧ (q i).bg = decide (i = 0) ∧ (q i).en = decide (i + 1 = m)) → 0 < n → n ≤ m → m - n < f → goF f h (q 0) t n (q (n - 1)) = m
  | 0, h, t, n, m, q, _, _, _, hf => by omega
  | f + 1, h, t, n, m, q, hq, hn, hnm, hf => by
    unfold goF
    obtain ⟨_, _, _, a4⟩ := hq (n - 1) (by omega)
    by_cases e : n = m
    · rw [if_pos (by rw [a4, decide_eq_true_iff]; omega)]; exact e
    · rw [if_neg (by rw [a4, decide_eq_true_iff]; omega)]
      obtain ⟨b1, b2, b3, b4⟩ := hq n (by omega)
      rw [b1]
      simp only
      rw [if_neg (by rw [b2, b3]; simp; omega)]
      have := go_of f (h := h) (t := t) (n := n + 1) (m := m) q hq (by omega) (by omega) (by omega)
      simpa using this
theorem chain_le {h : List A} {t : Int} {m : Nat} (hc : Chain h t m) (hm : m ≤ 100000) : m ≤ h.length := by
  obtain ⟨h0, q, hq⟩ := hc
  refine steps_le (t := t) 1 (.inl rfl) hm (fun k hk => ?_)
  rw [show (1 * (k : Int)) = (k : Int) by omega, (hq k hk).1]; rfl
theorem from_of {h : List A} {t : Int} {m : Nat} (ht : isU32 t) (hc : Chain h t m) (hm : m ≤ 512) : fromF h t = m := by
  obtain ⟨h0, q, hq⟩ := hc
  obtain ⟨a1, a2, a3, a4⟩ := hq 0 h0
  rw [show ((0 : Nat) : Int) = 0 from rfl, stp_0 ht] at a1
  unfold fromF
  rw [a1]
  simp only
  rw [if_pos (by rw [a3]; rfl)]
  exact go_of 600 q hq (by omega) (by omega) (by omega)

/-! The program's whole. -/
theorem stp_stp (t a b : Int) : stp (stp t a) b = stp t (a + b) := by unfold stp; rw [Bx.wrap32, Bx.wrap32, Bx.wrap32]; omega
/-- Backwards, from the b-th piece. -/
theorem back_of : ∀ (b : Nat) (f : Nat) {h : List A} {p : A} {t : Int} {m : Nat} (q : Nat → A), isU32 t → (∀ i : Nat, i < m → getH h (stp t (i : Int)) = some (q i) ∧ alikeB (q i) p = true ∧ (q i).bg = decide (i = 0) ∧ (q i).en = decide (i + 1 = m)) → b < m → b < f → backF f h p (stp t (b : Int)) (q b) = some t
  | b, 0, h, p, t, m, q, _, _, _, hf => by omega
  | 0, f + 1, h, p, t, m, q, ht, hq, hb, hf => by
    unfold backF
    rw [if_pos (by rw [(hq 0 hb).2.2.1]; rfl), show ((0 : Nat) : Int) = 0 from rfl, stp_0 ht]
  | b + 1, f + 1, h, p, t, m, q, ht, hq, hb, hf => by
    unfold backF
    obtain ⟨a1, a2, a3, a4⟩ := hq b (by omega)
    rw [if_neg (by rw [(hq (b + 1) hb).2.2.1]; simp), prv_stp, show ((b + 1 : Nat) : Int) - 1 = (b : Int) by omega, a1]
    simp only
    rw [if_pos ⟨a2, by rw [a4, decide_eq_false_iff_not]; omega⟩]
    exact back_of b f q ht hq (by omega) (by omega)
theorem fwd_of : ∀ (f : Nat) {h : List A} {p : A} {t : Int} {n m : Nat} (q : Nat → A), isU32 t → (∀ i : Nat, i < m → getH h (stp t (i : Int)) = some (q i) ∧ alikeB (q i) p = true ∧ (q i).bg = decide (i = 0) ∧ (q i).en = decide (i + 1 = m)) → n < m → m ≤ 512 → m - n ≤ f → fwdF f h p t (stp t (n : Int)) n = some m
  | 0, h, p, t, n, m, q, _, _, _, _, hf => by omega
  | f + 1, h, p, t, n, m, q, ht, hq, hn, hm, hf => by
    unfold fwdF
    obtain ⟨a1, a2, a3, a4⟩ := hq n hn
    rw [a1]
    simp only
    have e : decide (stp t (n : Int) = t) = decide (n = 0) := by
      rw [decide_eq_decide]
      constructor
      · intro e
        have := stp_inj (t := t) (i := (n : Int)) (j := 0) (by rw [e, stp_0 ht]) (by omega) (by omega)
        omega
      · rintro rfl
        exact stp_0 ht
    rw [if_pos ⟨a2, by rw [a3, e]⟩]
    by_cases e2 : n + 1 = m
    · rw [if_pos (by rw [a4, decide_eq_true_iff]; exact e2), e2]
    · rw [if_neg (by rw [a4, decide_eq_true_iff]; exact e2), nxt_stp, show ((n : Int) + 1) = ((n + 1 : Nat) : Int) by omega]
      exact fwd_of f q ht hq (by omega) hm (by omega)
/-- What the reference finds, the program finds. -/
theorem whole_of {h : List A} {p : A} {t : Int} {m b : Nat} (hp : getH h p.tsn = some p) (ht : isU32 t) (hpb : stp t (b : Int) = p.tsn) (hc : Chain h t m) (hb : b < m) (hm : m ≤ 512) : wholeF h p = (t, m) := by
  obtain ⟨h0, q, hq⟩ := hc
  have hqb : q b = p := by
    have := (hq b hb).1
    rw [hpb, hp] at this
    exact (Option.some.inj this).symm
  have hal : ∀ i : Nat, i < m → getH h (stp t (i : Int)) = some (q i) ∧ alikeB (q i) p = true ∧ (q i).bg = decide (i = 0) ∧ (q i).en = decide (i + 1 = m) := by
    intro i hi
    obtain ⟨a1, a2, a3, a4⟩ := hq i hi
    refine ⟨a1, ?_, a3, a4⟩
    have k1 := alike_iff.1 a2
    have k2 := alike_iff.1 (hq b hb).2.1
    rw [hqb] at k2
    exact alike_iff.2 ⟨k1.1.trans k2.1.symm, k1.2.1.trans k2.2.1.symm, k1.2.2.trans k2.2.2.symm⟩
  have h1 := back_of b 600 q ht hal hb (by omega)
  rw [hpb, hqb] at h1
  have h2 := fwd_of 600 (n := 0) q ht hal h0 hm (by omega)
  rw [show ((0 : Nat) : Int) = 0 from rfl, stp_0 ht] at h2
  rw [whole_some h1, h2]

/-- What is found backwards. -/
theorem back_ex : ∀ (f : Nat) {h : List A} {p : A} {F R : Int} {q : A}, getH h F = some q → isU32 F → backF f h p F q = some R →
    ∃ b : Nat, b < f ∧ F = stp R (b : Int) ∧ isU32 R ∧ ∀ i : Nat, i ≤ b → ∃ a, getH h (stp R (i : Int)) = some a ∧ (i < b → alikeB a p = true ∧ a.en = false) ∧ a.bg = decide (i = 0)
  | 0, h, p, F, R, q, _, _, e => by simp [backF] at e
  | f + 1, h, p, F, R, q, hq, hu, e => by
    unfold backF at e
    split at e
    · rename_i hb
      cases e
      refine ⟨0, by omega, by rw [show ((0 : Nat) : Int) = 0 from rfl, stp_0 hu], hu, fun i hi => ⟨q, ?_, by omega, ?_⟩⟩
      · have : i = 0 := by omega
        subst this
        rw [show ((0 : Nat) : Int) = 0 from rfl, stp_0 hu]; exact hq
      · have : i = 0 := by omega
        subst this
        rw [hb]; rfl
    · rename_i hb
      split at e
      · cases e
      · rename_i r hr
        split at e
        · rename_i hc
          obtain ⟨b, h1, h2, h3, h4⟩ := back_ex f hr (u32_wrap _) e
          have hF : F = stp R ((b + 1 : Nat) : Int) := by
            have : nxt (prv F) = F := by unfold nxt prv; rw [Bx.wrap32, Bx.wrap32]; unfold isU32 at hu; omega
            rw [← this, h2, nxt_stp]; rfl
          refine ⟨b + 1, by omega, hF, h3, fun i hi => ?_⟩
          by_cases e2 : i = b + 1
          · subst e2
            refine ⟨q, by rw [← hF]; exact hq, by omega, ?_⟩
            rw [show q.bg = false by simpa using hb]
            simp
          · obtain ⟨a, g1, g2, g3⟩ := h4 i (by omega)
            refine ⟨a, g1, fun hi2 => ?_, g3⟩
            by_cases e3 : i < b
            · exact g2 e3
            · have : i = b := by omega
              subst this
              rw [← h2, hr] at g1
              cases g1
              exact hc
        · cases e
theorem fwd_ex : ∀ (f : Nat) {h : List A} {p : A} {F : Int} {i n : Nat}, fwdF f h p F (stp F (i : Int)) i = some n →
    i < n ∧ ∀ k : Nat, i ≤ k → k < n → ∃ a, getH h (stp F (k : Int)) = some a ∧ alikeB a p = true ∧ a.bg = decide (stp F (k : Int) = F) ∧ a.en = decide (k + 1 = n)
  | 0, h, p, F, i, n, e => by simp [fwdF] at e
  | f + 1, h, p, F, i, n, e => by
    unfold fwdF at e
    split at e
    · cases e
    · rename_i q hq
      split at e
      · rename_i hc
        split at e
        · rename_i he
          cases e
          refine ⟨by omega, fun k hk1 hk2 => ?_⟩
          have : k = i := by omega
          subst this
          exact ⟨q, hq, hc.1, hc.2, by rw [he]; simp⟩
        · rename_i he
          rw [nxt_stp, show ((i : Int) + 1) = ((i + 1 : Nat) : Int) by omega] at e
          obtain ⟨h1, h2⟩ := fwd_ex f e
          refine ⟨by omega, fun k hk1 hk2 => ?_⟩
          by_cases ek : k = i
          · subst ek
            refine ⟨q, hq, hc.1, hc.2, ?_⟩
            rw [show q.en = false by simpa using he]
            symm; rw [decide_eq_false_iff_not]; omega
          · exact h2 k (by omega) hk2
      · cases e
/-- What the program finds, the reference finds. -/
theorem of_whole {h : List A} {p : A} {F : Int} {m : Nat} (hp : getH h p.tsn = some p) (hu : isU32 p.tsn) (hlen : h.length ≤ 512) (hw : wholeF h p = (F, m + 1)) : isU32 F ∧ Chain h F (m + 1) ∧ ∃ b : Nat, b ≤ m ∧ p.tsn = stp F (b : Int) := by
  have hle := (whole_all hu hw).2.1
  unfold wholeF at hw
  split at hw
  · cases hw
  · rename_i F' hb
    split at hw
    · cases hw
    · rename_i n hf
      cases hw
      obtain ⟨b, b1, b2, b3, b4⟩ := back_ex 600 hp hu hb
      rw [show fwdF 600 h p F F 0 = fwdF 600 h p F (stp F ((0 : Nat) : Int)) 0 by rw [show ((0 : Nat) : Int) = 0 from rfl, stp_0 b3]] at hf
      obtain ⟨f1, f2⟩ := fwd_ex 600 hf
      refine ⟨b3, ?_, b, ?_, b2⟩
      · obtain ⟨a0, g0, g1, g2, g3⟩ := f2 0 (by omega) (by omega)
        refine ⟨by omega, fun i => (getH h (stp F (i : Int))).getD zA, fun i hi => ?_⟩
        obtain ⟨a, k0, k1, k2, k3⟩ := f2 i (by omega) hi
        refine ⟨by show _ = some ((getH h (stp F (i : Int))).getD zA); rw [k0]; rfl, ?_, ?_, ?_⟩
        · show alikeB ((getH h (stp F (i : Int))).getD zA) ((getH h (stp F ((0 : Nat) : Int))).getD zA) = true
          rw [k0, g0]
          have c1 := alike_iff.1 k1
          have c2 := alike_iff.1 g1
          exact alike_iff.2 ⟨c1.1.trans c2.1.symm, c1.2.1.trans c2.2.1.symm, c1.2.2.trans c2.2.2.symm⟩
        · show ((getH h (stp F (i : Int))).getD zA).bg = _
          rw [k0]
          show a.bg = _
          rw [k2, decide_eq_decide]
          constructor
          · intro e
            have := stp_inj (t := F) (i := (i : Int)) (j := 0) (by rw [e, stp_0 b3]) (by omega) (by omega)
            omega
          · rintro rfl
            exact stp_0 b3
        · show ((getH h (stp F (i : Int))).getD zA).en = _
          rw [k0]
          exact k3
      · rcases Nat.lt_or_ge m b with hlt | hge
        · exfalso
          obtain ⟨a, k0, k1, k2⟩ := b4 m (by omega)
          obtain ⟨a', g0, g1, g2, g3⟩ := f2 m (by omega) (by omega)
          rw [k0] at g0
          cases g0
          have := (k1 hlt).2
          rw [g3] at this
          simp at this
        · exact hge
/-- The search: what is found first is what is whole. -/
theorem search_hit {h : List A} {p : A} {b : Nat} (hp : getH h p.tsn = some p) (hu : isU32 p.tsn) (hlen : h.length ≤ 512) (hb : b < fromF h (stp p.tsn (-(b : Int)))) : wholeF h p = (stp p.tsn (-(b : Int)), fromF h (stp p.tsn (-(b : Int)))) := by
  have ht : isU32 (stp p.tsn (-(b : Int))) := u32_wrap _
  have hc := from_chain (h := h) ht (by omega)
  have hpb : stp (stp p.tsn (-(b : Int))) (b : Int) = p.tsn := by rw [stp_stp, show -(b : Int) + b = 0 by omega, stp_0 hu]
  refine whole_of hp ht hpb hc hb ?_
  have hn : fromF h (stp p.tsn (-(b : Int))) ≤ 100000 := by
    have key : ∀ (f : Nat) (q : A) (t : Int) (n : Nat) (cur : A), goF f h q t n cur ≤ n + f := by
      intro f
      induction f with
      | zero => intro q t n cur; simp [goF]
      | succ f ih =>
        intro q t n cur
        unfold goF
        split
        · omega
        · split
          · omega
          · rename_i y hy
            split
            · omega
            · have := ih q t (n + 1) y; omega
    unfold fromF
    split
    · omega
    · rename_i y hy
      split
      · have := key 600 y (stp p.tsn (-(b : Int))) 1 y; omega
      · omega
  have := chain_le hc hn
  omega
theorem search_miss {h : List A} {p : A} (hp : getH h p.tsn = some p) (hu : isU32 p.tsn) (hlen : h.length ≤ 512) (hall : ∀ b : Nat, b < 512 → fromF h (stp p.tsn (-(b : Int))) ≤ b) : (wholeF h p).2 = 0 := by
  rcases hw : wholeF h p with ⟨F, m⟩
  cases m with
  | zero => rfl
  | succ m =>
    obtain ⟨h1, h2, b, h3, h4⟩ := of_whole hp hu hlen hw
    have h5 := (whole_all hu hw).2.1
    have := hall b (by omega)
    rw [h4, stp_stp, show (b : Int) + -(b : Int) = 0 by omega, stp_0 h1, from_of h1 h2 (by omega)] at this
    omega

/-! What is taken out at its place. -/
theorem getH_at {h : List A} {i : Nat} {a : A} (hi : h[i]? = some a) (hpre : ∀ j : Nat, j < i → ∀ b, h[j]? = some b → b.tsn ≠ a.tsn) : getH h a.tsn = some a := by
  induction h generalizing i with
  | nil => simp at hi
  | cons x h ih =>
    unfold getH
    cases i with
    | zero =>
      simp at hi
      subst hi
      simp
    | succ i =>
      have hx : (x.tsn == a.tsn) = false := by
        have := hpre 0 (by omega) x rfl
        simpa using this
      rw [List.find?_cons, hx]
      exact ih (by simpa using hi) (fun j hj b hb => hpre (j + 1) (by omega) b (by simpa using hb))
theorem getH_gone {h : List A} {t : Int} (hpre : ∀ j : Nat, j < h.length → ∀ b, h[j]? = some b → b.tsn ≠ t) : getH h t = none := by
  unfold getH
  rw [List.find?_eq_none]
  intro a ha
  obtain ⟨j, hj⟩ := List.getElem?_of_mem ha
  have := hpre j (List.getElem?_eq_some_iff.1 hj).1 a hj
  simpa using this
theorem rm_at {h : List A} (hn : (h.map (·.tsn)).Nodup) {i : Nat} {a : A} (hi : h[i]? = some a) : rm h a.tsn = h.take i ++ h.drop (i + 1) := by
  induction h generalizing i with
  | nil => simp at hi
  | cons x h ih =>
    rw [List.map_cons, List.nodup_cons] at hn
    cases i with
    | zero =>
      simp at hi
      subst hi
      have : rm (x :: h) x.tsn = rm h x.tsn := by simp [rm]
      rw [this, rm_none (fun b hb e => hn.1 (List.mem_map.2 ⟨b, hb, e⟩))]
      rfl
    | succ i =>
      have hi' : h[i]? = some a := by simpa using hi
      have hx : (x.tsn != a.tsn) = true := by
        simp only [bne_iff_ne]
        intro e
        exact hn.1 (List.mem_map.2 ⟨a, List.mem_of_getElem? hi', e.symm⟩)
      have : rm (x :: h) a.tsn = x :: rm h a.tsn := by simp [rm, List.filter_cons, hx]
      rw [this, ih hn.2 hi']
      rfl
theorem getW_at {h : List T} {i : Nat} {a : T} (hi : h[i]? = some a) (hpre : ∀ j : Nat, j < i → ∀ b, h[j]? = some b → ¬ (b.s = a.s ∧ b.q = a.q)) : getW h a.s a.q = some a := by
  induction h generalizing i with
  | nil => simp at hi
  | cons x h ih =>
    unfold getW
    cases i with
    | zero =>
      simp at hi
      subst hi
      simp
    | succ i =>
      have hx : (x.s == a.s && x.q == a.q) = false := by
        have := hpre 0 (by omega) x rfl
        cases hb : (x.s == a.s && x.q == a.q) with
        | false => rfl
        | true => rw [Bool.and_eq_true, beq_iff_eq, beq_iff_eq] at hb; exact absurd hb this
      rw [List.find?_cons, hx]
      exact ih (by simpa using hi) (fun j hj b hb => hpre (j + 1) (by omega) b (by simpa using hb))
theorem getW_gone {h : List T} {s q : Int} (hpre : ∀ j : Nat, j < h.length → ∀ b, h[j]? = some b → ¬ (b.s = s ∧ b.q = q)) : getW h s q = none := by
  unfold getW
  rw [List.find?_eq_none]
  intro a ha
  obtain ⟨j, hj⟩ := List.getElem?_of_mem ha
  have := hpre j (List.getElem?_eq_some_iff.1 hj).1 a hj
  simpa using this
theorem rmW_at {h : List T} (hn : (h.map fun y => (y.s, y.q)).Nodup) {i : Nat} {a : T} (hi : h[i]? = some a) : rmW h a.s a.q = h.take i ++ h.drop (i + 1) := by
  induction h generalizing i with
  | nil => simp at hi
  | cons x h ih =>
    rw [List.map_cons, List.nodup_cons] at hn
    cases i with
    | zero =>
      simp at hi
      subst hi
      have : rmW (x :: h) x.s x.q = rmW h x.s x.q := by simp [rmW]
      rw [this, rmW_none (fun b hb e => hn.1 (List.mem_map.2 ⟨b, hb, by rw [e.1, e.2]⟩))]
      rfl
    | succ i =>
      have hi' : h[i]? = some a := by simpa using hi
      have hx : (x.s == a.s && x.q == a.q) = false := by
        cases hb : (x.s == a.s && x.q == a.q) with
        | false => rfl
        | true => rw [Bool.and_eq_true, beq_iff_eq, beq_iff_eq] at hb; exact absurd (List.mem_map.2 ⟨a, List.mem_of_getElem? hi', by rw [hb.1, hb.2]⟩) hn.1
      have : rmW (x :: h) a.s a.q = x :: rmW h a.s a.q := by simp only [rmW, List.filter_cons, hx, Bool.not_false, if_true]
      rw [this, ih hn.2 hi']
      rfl
end Go.Proofs.Yteiiifonejkjbaa.Rb
