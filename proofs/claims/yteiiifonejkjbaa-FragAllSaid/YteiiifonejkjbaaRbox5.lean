/-
  The list of those that wait: one goes out, one is added; what stays. No walk.
-/
import Derived.Test.YteiiifonejkjbaaRbox4
import Derived.BigQuiet
import Derived.Deep.QuietTactic
namespace Go.Proofs.Yteiiifonejkjbaa.Rb
open Go.RowKit Mem Cells Ops Pcs Go.Maps Go.Proofs.Yteiiifonejkjbaa.Open Go.Proofs.Yteiiifonejkjbaa.Bx
set_option linter.unusedVariables false
set_option linter.unusedSimpArgs false

theorem rbA_get (vh vt : Value) (nx : Nat → Int) (s : Nat) (h : s < 8) : (rbA vh vt nx)[2 + s]? = some (.int .u16 (nx s)) := by
  match s, h with
  | 0, _ | 1, _ | 2, _ | 3, _ | 4, _ | 5, _ | 6, _ | 7, _ => rfl
theorem rbA_set (vh vt : Value) (nx : Nat → Int) (s : Nat) (h : s < 8) (v : Int) : (rbA vh vt nx).set! (2 + s) (.int .u16 v) = rbA vh vt (Chunk.upd nx s v) := by
  match s, h with
  | 0, _ | 1, _ | 2, _ | 3, _ | 4, _ | 5, _ | 6, _ | 7, _ => rfl
def boolV : Value → Bool
  | .bool b => b
  | _ => false
section
variable {w w1 w2 : World} {Z g : Nat} {vh vt : Value} {x : S}
theorem S.ok_rmW (h : x.ok) (s q : Int) : S.ok { x with wait := rmW x.wait s q } :=
  ⟨h.1, ⟨(List.Sublist.map _ (List.filter_sublist (l := x.wait))).nodup h.2.1.1, fun y hy => h.2.1.2 y (List.mem_filter.1 hy).1⟩, h.2.2⟩
theorem RB.own (h : RB Z w g vh vt x) {B e k n : Nat} {v : Value} {us : List Value} (hg : w.grownBy w1 v.ownBlock) (ho : w.ownsRow B e k v n us) (hT : ¬ RT e) (h5 : e ≠ 5) : RB Z w1 g vh vt x := by
  cases hv : v.ownBlock with
  | none =>
    rw [hv] at hg
    exact h.below ⟨hg.os, hg.tape, hg.output, hg.size, fun i hi => hg.block i hi (by simp)⟩
  | some q =>
    obtain ⟨cur, hc⟩ := own_at ho hv
    rw [hv] at hg
    exact h.other hg hc hT h5
theorem cutT {q c m k : Nat} {l : List T} (h : OwnT Z w (.slice (some ⟨q, 0, none⟩) m c) l) (hm : l.length = m) (hk : k < m) (hm1 : m ≤ 1000000) (hZ : Z ≤ w.heap.size) :
    ∃ v1 w1, (Builtin.append_ #[54, 54] 54 #[.slice none 0 0, .slice (some ⟨q, 0, none⟩) k c]).run Try.prog w = .ok v1 w1 ∧ Below w.heap.size w w1 ∧ ∃ A : Addr, sliced (some ⟨q, 0, none⟩) (k + 1) m c 3 = .slice (some A) (m - (k + 1)) (c - (k + 1)) ∧
      ∃ p2 c2 w2, (Builtin.append_ #[54, 54] 54 #[v1, .slice (some A) (m - (k + 1)) (c - (k + 1))]).run Try.prog w1 = .ok (.slice p2 (m - 1) c2) w2 ∧ Below w.heap.size w w2 ∧ OwnT Z w2 (.slice p2 (m - 1) c2) (l.take k ++ l.drop (k + 1)) := by
  obtain ⟨ys, e1, e2, e3⟩ := h
  rw [hm] at e2
  have hyl : ys.length = m := by rw [← hm, ← e1, List.length_map]
  have hfl : (flatT ys).length = m * 3 := by rw [flatT_length, hyl]
  have hone : ∀ u ∈ flatT ys, u.oneCell' = true := flatT_one' (w := w) (fun z hz => (e3 z hz).reads)
  obtain ⟨i0, hi, hz0, hz1, hz2⟩ := info_parts info85
  obtain ⟨v1, w1, hrun1, hb1, ho1, hv1⟩ := cut1 Try.underlying54 hi hz0 hz1 hz2 rfl (by decide) (by decide) e2 hfl hone hk hm1 hZ
  obtain ⟨A, hA, v2, w2, hrun2, hb2, ho2, hv2⟩ := cut2 Try.underlying54 hi hz0 hz1 hz2 rfl (by decide) (by decide) e2 hfl hone hk hm1 hZ hb1 ho1 hv1
  obtain ⟨p2, c2, rfl⟩ : ∃ p2 c2, v2 = .slice p2 (m - 1) c2 := by
    rcases ho2.2 with ⟨rfl, h0⟩ | ⟨g', cap, cur, rfl, _⟩
    · exact ⟨none, 0, by rw [h0]⟩
    · exact ⟨_, _, rfl⟩
  refine ⟨v1, w1, hrun1, hb1, A, hA, p2, c2, w2, hrun2, hb2, ys.take k ++ ys.drop (k + 1), by rw [map_cut, e1], ?_, fun z hz => Row.below (e3 z (mem_cut hz)) hb2⟩
  rw [flatT_append, flatT_take, flatT_drop, List.length_append, List.length_take, List.length_drop, hm, show min k m + (m - (k + 1)) = m - 1 by omega]
  exact ho2
theorem RB.setT (h : RB Z w g vh vt x) (hb : Below w.heap.size w w1) {v2 : Value} {l : List T} (ht : OwnT Z w1 v2 l) (hg : w1.grownBy w2 (some g)) (hat : At w2 g 56 (rbA vh v2 x.next)) (hok : S.ok { x with wait := l }) : RB Z w2 g vh v2 { x with wait := l } := by
  have hrow := h.row.ext hb
  exact ⟨hat, (h.held.below hb).other hg hrow (by decide) (by decide), ht.other hg hrow (by decide) (by decide), h.le, hok⟩
theorem RB.setNext (h : RB Z w g vh vt x) (s : Nat) (v : Int) (hv : isU16 v) (hat : At w1 g 56 (rbA vh vt (Chunk.upd x.next s v))) (hg : w.grownBy w1 (some g)) : RB Z w1 g vh vt { x with next := Chunk.upd x.next s v } := by
  refine ⟨hat, h.held.other hg h.row (by decide) (by decide), h.wait.other hg h.row (by decide) (by decide), h.le, ?_⟩
  obtain ⟨h1, h2, h4⟩ := h.ok
  refine ⟨h1, h2, fun i => ?_⟩
  show isU16 (if i = s then v else x.next i)
  split
  · exact hv
  · exact h4 i
theorem RB.atW (H : RB Z w g vh vt x) {k : Nat} {a : T} (hk : x.wait[k]? = some a) :
    ∃ q c pd md, vt = .slice (some ⟨q, 0, none⟩) x.wait.length c ∧ k < x.wait.length ∧ x.wait.length ≤ c ∧ q < w.heap.size ∧ w.rangeAt q (k * 3) (rowT a (.slice pd a.data.length md)) ∧ Row .u8 5 Z w (.slice pd a.data.length md) a.data := by
  have hkl := (List.getElem?_eq_some_iff.1 hk).1
  obtain ⟨q, c, hv, h1, h2, _, h3⟩ := H.wait.block (by omega)
  have h4 := H.wait
  rw [hv] at h4
  obtain ⟨pd, md, hra, hrow⟩ := OwnT.elem h4 k a hk
  exact ⟨q, c, pd, md, hv, hkl, h1, h3, hra, hrow⟩
theorem OwnG.own {B : Nat} {v : Value} {al : List G} (h : OwnG B w v al) : ∃ zs : List (G × Value), w.ownsRow B 32 2 v al.length (flatG zs) := by
  obtain ⟨zs, h1, h2, h3⟩ := h
  exact ⟨zs, h2⟩
/-- A block of the reference's box turns. -/
theorem OwnG.turn {B q T : Nat} {v : Value} {al : List G} {cs : Array Value} (h : OwnG B w v al) (hg : w.grownBy w1 (some q)) (hat : At w q T cs) (h1 : T ≠ 32) (h2 : T ≠ 5) : OwnG B w1 v al := by
  obtain ⟨zs, ho⟩ := OwnG.own h
  exact h.grownT hg hat (fun e => own_ne ho hat (fun e => h1 e.symm) e) h2
end
theorem below_drewN (w : World) (n : Nat) : Below w.heap.size w (w.drewN n) := ⟨rfl, rfl, rfl, Nat.le_refl _, fun _ _ => rfl⟩
end Go.Proofs.Yteiiifonejkjbaa.Rb
