/-
  What a box makes of messages of one piece each, of which one comes late (plain).
-/
import Derived.Test.YteiiifonejkjbaaBox4
namespace Go.Proofs.Yteiiifonejkjbaa.Bx
open Go.RowKit Mem Cells Ops Pcs Go.Maps Go.Proofs.Yteiiifonejkjbaa.Open
set_option linter.unusedVariables false
set_option linter.unusedSimpArgs false

theorem getH_one (p : A) : getH [p] p.tsn = some p := by simp [getH]
theorem whole_one (p : A) (hb : p.bg = true) (he : p.en = true) : wholeF [p] p = (p.tsn, 1) := by
  have h1 : backF 600 [p] p p.tsn p = some p.tsn := by
    unfold backF
    rw [if_pos hb]
  have h2 : fwdF 600 [p] p p.tsn p.tsn 0 = some 1 := by
    unfold fwdF
    rw [getH_one]
    simp only
    rw [if_pos ⟨by simp [alikeB], by rw [hb]; simp⟩, if_pos he]
  unfold wholeF
  rw [h1]
  simp only
  rw [h2]
theorem take_one (p : A) : takeF 1 [p] p.tsn [] = ([], p.data) := by
  unfold takeF takeF dataH
  rw [getH_one]
  simp [rm]
/-- A message of one piece. -/
theorem put_one (x : S) (p : A) (h0 : x.held = []) (hb : p.bg = true) (he : p.en = true) (hu : p.un = false) (hbad : badF p = false) :
    putF x p = (⟨[], (readyF ((waitF x.wait p p.data).length + 1) (waitF x.wait p p.data) x.next p.stream.toNat []).1, (readyF ((waitF x.wait p p.data).length + 1) (waitF x.wait p p.data) x.next p.stream.toNat []).2.1⟩, (readyF ((waitF x.wait p p.data).length + 1) (waitF x.wait p p.data) x.next p.stream.toNat []).2.2, 0) := by
  unfold putF
  rw [if_neg (by rw [hbad]; decide), h0, if_neg (by simp [getH]), if_neg (by simp), List.nil_append, whole_one p hb he]
  simp only
  rw [take_one, if_neg (by rw [hu]; decide)]

def pc (i : Nat) : A := ⟨i, 0, i, true, true, false, [(i : Int)]⟩
theorem pc_good (i : Nat) : badF (pc i) = false := by simp [badF, pc]
def yT (i : Nat) : T := ⟨0, i, [(i : Int)]⟩
def msgs (a b : Nat) : List G := (List.range (b - a)).map fun j => ⟨0, [((a + j : Nat) : Int)]⟩
def nxt0 (v : Int) : Nat → Int := fun s => if s = 0 then v else 0
def wl (gone i : Nat) : List T := (List.range (i - (gone + 1))).map fun j => yT (gone + 1 + j)
theorem wl_get (gone i q : Nat) : getW (wl gone i) 0 (q : Int) = if gone < q ∧ q < i then some (yT q) else none := by
  by_cases h : gone < q ∧ q < i
  · rw [if_pos h]
    unfold getW
    have hm : yT q ∈ wl gone i := List.mem_map.2 ⟨q - (gone + 1), List.mem_range.2 (by omega), by rw [show gone + 1 + (q - (gone + 1)) = q by omega]⟩
    cases hf : (wl gone i).find? (fun x => x.s == 0 && x.q == (q : Int)) with
    | none =>
      rw [List.find?_eq_none] at hf
      have := hf _ hm
      simp [yT] at this
    | some y =>
      have h1 := List.find?_some hf
      obtain ⟨j, _, rfl⟩ := List.mem_map.1 (List.mem_of_find?_eq_some hf)
      simp [yT] at h1
      have : gone + 1 + j = q := by omega
      rw [this]
  · rw [if_neg h]
    unfold getW
    rw [List.find?_eq_none]
    intro y hy
    obtain ⟨j, hj, rfl⟩ := List.mem_map.1 hy
    have := List.mem_range.1 hj
    simp [yT]
    omega
theorem wl_other (gone i : Nat) {s : Int} (hs : s ≠ 0) (q : Int) : getW (wl gone i) s q = none := by
  unfold getW
  rw [List.find?_eq_none]
  intro y hy
  obtain ⟨j, hj, rfl⟩ := List.mem_map.1 hy
  simp [yT]
  intro e
  exact absurd e.symm hs
theorem wl_nodup (gone i : Nat) : ((wl gone i).map fun y => (y.s, y.q)).Nodup := by
  unfold wl
  rw [List.map_map, List.nodup_iff_pairwise_ne, List.pairwise_map]
  have := List.nodup_range (n := i - (gone + 1))
  rw [List.nodup_iff_pairwise_ne] at this
  refine List.Pairwise.imp ?_ this
  intro a b hab e
  simp [yT] at e
  omega
theorem wl_succ (gone i : Nat) (h : gone < i) : wl gone (i + 1) = wl gone i ++ [yT i] := by
  unfold wl
  rw [show i + 1 - (gone + 1) = (i - (gone + 1)) + 1 by omega, List.range_succ, List.map_append]
  simp
  congr 1
  omega
/-- The box when the first i have come, but one. -/
def stL (gone i : Nat) : S := if i ≤ gone then ⟨[], [], nxt0 i⟩ else ⟨[], wl gone i, nxt0 gone⟩
theorem stL_held (gone i : Nat) : (stL gone i).held = [] := by unfold stL; split <;> rfl
theorem nxt0_upd (v w : Int) : Chunk.upd (nxt0 v) 0 w = nxt0 w := by
  funext s
  unfold Chunk.upd nxt0
  split <;> rfl
theorem lost_a (gone i : Nat) (h : i < gone) (hg : gone < 10) : putF (stL gone i) (pc i) = (stL gone (i + 1), [⟨0, [(i : Int)]⟩], 0) := by
  rw [put_one _ _ (stL_held gone i) rfl rfl rfl (pc_good i)]
  have e1 : stL gone i = ⟨[], [], nxt0 i⟩ := by unfold stL; rw [if_pos (by omega)]
  have e2 : stL gone (i + 1) = ⟨[], [], nxt0 ((i + 1 : Nat) : Int)⟩ := by unfold stL; rw [if_pos (by omega)]
  rw [e1, e2]
  have hw : waitF ([] : List T) (pc i) (pc i).data = [yT i] := rfl
  simp only
  rw [hw]
  have hr : readyF ([yT i].length + 1) [yT i] (nxt0 i) (pc i).stream.toNat [] = ([], nxt0 ((i + 1 : Nat) : Int), [⟨0, [(i : Int)]⟩]) := by
    show readyF ([yT i].length + 1) [yT i] (nxt0 i) 0 [] = _
    have hg1 : getW [yT i] ((0 : Nat) : Int) (nxt0 i 0) = some (yT i) := by simp [getW, yT, nxt0]
    rw [ready_some (by simp) hg1]
    have hrm : rmW [yT i] ((0 : Nat) : Int) (nxt0 i 0) = [] := by simp [rmW, yT, nxt0]
    rw [hrm, ready_none (by simp [getW]), nxt0_upd]
    have : nx16 (nxt0 i 0) = ((i + 1 : Nat) : Int) := by unfold nx16 nxt0; rw [wrap16]; simp; omega
    rw [this]
    rfl
  rw [hr]
theorem lost_b (gone i : Nat) (h : gone < i) (hi : i < 10) : putF (stL gone i) (pc i) = (stL gone (i + 1), [], 0) := by
  rw [put_one _ _ (stL_held gone i) rfl rfl rfl (pc_good i)]
  have e1 : stL gone i = ⟨[], wl gone i, nxt0 gone⟩ := by unfold stL; rw [if_neg (by omega)]
  have e2 : stL gone (i + 1) = ⟨[], wl gone (i + 1), nxt0 gone⟩ := by unfold stL; rw [if_neg (by omega)]
  rw [e1, e2]
  have hw : waitF (wl gone i) (pc i) (pc i).data = wl gone (i + 1) := by
    have hn : getW (wl gone i) (pc i).stream (pc i).seq = none := by
      show getW (wl gone i) 0 (i : Int) = none
      rw [wl_get, if_neg (by omega)]
    unfold waitF
    rw [hn, wl_succ gone i h]
    rfl
  simp only
  rw [hw]
  have hr := ready_none (l := wl gone (i + 1)) (nx := nxt0 gone) (s := 0) (out := []) (by show getW _ 0 (nxt0 gone 0) = none; rw [show nxt0 gone 0 = (gone : Int) from rfl, wl_get, if_neg (by omega)])
  rw [show (pc i).stream.toNat = 0 from rfl, hr]
/-- All that waits in a row is told. -/
theorem ready_row : ∀ (n : Nat) (l : List T) (nx : Nat → Int) (a : Nat) (out : List G), a + n < 1000 → nx 0 = (a : Int) → (l.map fun y => (y.s, y.q)).Nodup → (∀ q : Nat, getW l 0 (q : Int) = if a ≤ q ∧ q < a + n then some (yT q) else none) →
    (readyF (l.length + 1) l nx 0 out).2.2 = out ++ (List.range n).map fun j => ⟨0, [((a + j : Nat) : Int)]⟩
  | 0, l, nx, a, out, _, hnx, _, hg => by
    rw [ready_none (by show getW l 0 (nx 0) = none; rw [hnx, hg, if_neg (by omega)])]
    simp
  | n + 1, l, nx, a, out, hb, hnx, hn, hg => by
    have h1 : getW l ((0 : Nat) : Int) (nx 0) = some (yT a) := by show getW l 0 (nx 0) = _; rw [hnx, hg, if_pos (by omega)]
    rw [ready_some hn h1]
    have hn2 : ((rmW l ((0 : Nat) : Int) (nx 0)).map fun y => (y.s, y.q)).Nodup := (List.Sublist.map _ (List.filter_sublist (l := l))).nodup hn
    rw [ready_row n _ _ (a + 1) _ (by omega) (by show (if 0 = 0 then nx16 (nx 0) else nx 0) = _; rw [if_pos rfl, hnx]; unfold nx16; rw [wrap16]; omega) hn2 (fun q => ?_)]
    · rw [List.append_assoc]
      congr 1
      rw [List.range_succ_eq_map, List.map_cons, List.map_map]
      simp only [List.singleton_append]
      congr 1
      refine List.map_congr_left fun j _ => ?_
      simp only [Function.comp]
      rw [show a + 1 + j = a + (j + 1) by omega]
    · by_cases e : q = a
      · subst e
        rw [show getW (rmW l ((0 : Nat) : Int) (nx 0)) 0 (q : Int) = none from by rw [← hnx]; exact getW_rm_same l 0 (nx 0), if_neg (by omega)]
      · rw [show getW (rmW l ((0 : Nat) : Int) (nx 0)) 0 (q : Int) = getW l 0 (q : Int) from getW_rm_other l (by rw [hnx]; omega), hg]
        by_cases h2 : a ≤ q ∧ q < a + (n + 1)
        · rw [if_pos h2, if_pos (by omega)]
        · rw [if_neg h2, if_neg (by omega)]
/-- A message of another stream. -/
def pO (xs : List Int) : A := ⟨500, 1, 0, true, true, false, xs⟩
def stO (x : S) : S := { x with next := Chunk.upd x.next 1 1 }
theorem lost_o (gone k : Nat) (hg : gone < k) (xs : List Int) (h0 : 0 < xs.length) (h2 : xs.length ≤ 256) : putF (stL gone k) (pO xs) = (stO (stL gone k), [⟨1, xs⟩], 0) := by
  have hbad : badF (pO xs) = false := by
    unfold badF
    rw [decide_eq_false_iff_not]
    show ¬ (xs.length = 0 ∨ 256 < xs.length ∨ (8 : Int) ≤ 1)
    omega
  rw [put_one _ _ (stL_held gone k) rfl rfl rfl hbad]
  have e1 : stL gone k = ⟨[], wl gone k, nxt0 gone⟩ := by unfold stL; rw [if_neg (by omega)]
  rw [e1]
  have hnone : getW (wl gone k) 1 0 = none := wl_other gone k (by decide) 0
  have hw : waitF (wl gone k) (pO xs) (pO xs).data = wl gone k ++ [⟨1, 0, xs⟩] := by
    unfold waitF
    rw [show (pO xs).stream = 1 from rfl, show (pO xs).seq = 0 from rfl, hnone]
    rfl
  simp only
  rw [hw]
  have hn : ((wl gone k ++ [(⟨1, 0, xs⟩ : T)]).map fun y => (y.s, y.q)).Nodup := by
    rw [List.map_append, List.nodup_append]
    refine ⟨wl_nodup gone k, by simp, ?_⟩
    intro a ha b hb e
    obtain ⟨z, hz, rfl⟩ := List.mem_map.1 ha
    obtain ⟨j, _, rfl⟩ := List.mem_map.1 hz
    simp at hb
    rw [hb] at e
    simp [yT] at e
  have hg1 : getW (wl gone k ++ [(⟨1, 0, xs⟩ : T)]) ((1 : Nat) : Int) (nxt0 gone 1) = some ⟨1, 0, xs⟩ := by
    show getW _ 1 0 = _
    rw [getW_app (y := ⟨1, 0, xs⟩) hnone, if_pos ⟨rfl, rfl⟩]
  have hrm : rmW (wl gone k ++ [(⟨1, 0, xs⟩ : T)]) ((1 : Nat) : Int) (nxt0 gone 1) = wl gone k := by
    have h1 := rmW_none (l := wl gone k) (s := 1) (q := 0) (getW_none hnone)
    unfold rmW at h1 ⊢
    rw [List.filter_append]
    show _ ++ _ = _
    rw [show (List.filter (fun y => !(y.s == ((1 : Nat) : Int) && y.q == nxt0 (gone : Int) 1)) (wl gone k)) = wl gone k from h1]
    simp [nxt0]
  rw [show (pO xs).stream.toNat = 1 from rfl, ready_some hn hg1, hrm, ready_none (by exact wl_other gone k (by decide) _)]
  rfl
/-- The late one comes: all that waited is told. -/
theorem lost_c (gone k : Nat) (hg : gone < k) (hk : k ≤ 10) (x : S) (hx : x = stL gone k ∨ x = stO (stL gone k)) : (putF x (pc gone)).2 = (msgs gone k, 0) := by
  have hh : x.held = [] := by rcases hx with rfl | rfl; exact stL_held gone k; exact stL_held gone k
  have e1 : stL gone k = ⟨[], wl gone k, nxt0 gone⟩ := by unfold stL; rw [if_neg (by omega)]
  have hwt : x.wait = wl gone k := by rcases hx with rfl | rfl; rw [e1]; unfold stO; rw [e1]
  have hnx : x.next 0 = (gone : Int) := by rcases hx with rfl | rfl; rw [e1]; rfl; unfold stO; rw [e1]; rfl
  rw [put_one _ _ hh rfl rfl rfl (pc_good gone)]
  simp only
  have hnone : getW x.wait (pc gone).stream (pc gone).seq = none := by rw [hwt]; show getW _ 0 (gone : Int) = _; rw [wl_get, if_neg (by omega)]
  have hw : waitF x.wait (pc gone) (pc gone).data = wl gone k ++ [yT gone] := by
    unfold waitF
    rw [hnone, hwt]
    rfl
  rw [hw, show (pc gone).stream.toNat = 0 from rfl]
  have hn : ((wl gone k ++ [yT gone]).map fun y => (y.s, y.q)).Nodup := by
    rw [List.map_append, List.nodup_append]
    refine ⟨wl_nodup gone k, by simp, ?_⟩
    intro a ha b hb e
    obtain ⟨z, hz, rfl⟩ := List.mem_map.1 ha
    obtain ⟨j, _, rfl⟩ := List.mem_map.1 hz
    simp at hb
    rw [hb] at e
    simp [yT] at e
    omega
  have := ready_row (k - gone) (wl gone k ++ [yT gone]) x.next gone [] (by omega) hnx hn (fun q => by
    rw [getW_app (y := yT gone) (by rw [hwt] at hnone; exact hnone)]
    by_cases e : q = gone
    · subst e
      rw [if_pos ⟨rfl, rfl⟩, if_pos (by omega)]
    · rw [if_neg (by rintro ⟨_, e2⟩; simp [yT] at e2; omega), wl_get]
      by_cases h2 : gone < q ∧ q < k
      · rw [if_pos h2, if_pos (by omega)]
      · rw [if_neg h2, if_neg (by omega)])
  rw [this, List.nil_append]
  rfl
theorem stL_start (gone : Nat) : stL gone 0 = s0 := by
  unfold stL
  rw [if_pos (by omega)]
  unfold s0
  congr 1
  funext s
  unfold nxt0
  split <;> rfl
theorem stL_skip (gone : Nat) : stL gone gone = stL gone (gone + 1) := by
  unfold stL
  rw [if_pos (by omega), if_neg (by omega)]
  unfold wl
  simp
end Go.Proofs.Yteiiifonejkjbaa.Bx
