/-
  What is known in Put's last region, by which operations have run (plain). No walk.
-/
import Derived.Test.YtmbhiajhlfjknaaFull1
import Derived.Test.YtmbhiajhlfjknaaKeep1
import Derived.Test.YtmbhiajhlfjknaaMonoU
namespace Go.Proofs.Ytmbhiajhlfjknaa.Dup
open Go.RowKit Mem Cells Ops
set_option linter.unusedVariables false
set_option linter.unusedSimpArgs false

theorem reads_but2 {S g : Nat} {w x : World} {d : Value} {xs : List Int} (h : Reads .u8 w d xs) (hb : But2 S g w x) (hne : 0 < xs.length → d.ownBlock ≠ some S ∧ d.ownBlock ≠ some g) : Reads .u8 x d xs := by
  obtain ⟨p, c, rfl, h1, h2, h3, h4⟩ := h
  refine ⟨p, c, rfl, h1, h2, h3, fun h0 => ?_⟩
  obtain ⟨b, off, rfl, hlt, hc⟩ := h4 h0
  refine ⟨b, off, rfl, Nat.lt_of_lt_of_le hlt hb.size, fun i hi => ?_⟩
  rw [← hc i hi]
  have := hb.block b hlt (fun e => (hne h0).1 (by rw [e]; rfl)) (fun e => (hne h0).2 (by rw [e]; rfl))
  simp only [World.cell?, this]
structure JF (S g B : Nat) (w6 : World) (window most now : Int) (vl : Value) (ks : List K) (k : K) (l : Array Bool) (u : Nat → Value) (x : World) : Prop where
  fr : But2 S g w6 x
  row : At x S 39 (rowS window most now (if l.getD 14 false = true then u 11 else vl))
  done : l.getD 11 false = true → ∃ p c, u 11 = .slice p (ks.length + 1) c ∧ OwnK B x (.slice p (ks.length + 1) c) (ks ++ [k])
  own : l.getD 11 false = false → OwnK B x vl ks
  cl : l.getD 8 false = true → l.getD 11 false = false → Row .u8 5 B x (u 8) k.bytes
  bu : l.getD 9 false = true → l.getD 11 false = false → ∃ q s, u 9 = .agg (rowK k (.slice q k.bytes.length s)).toArray ∧ Row .u8 5 B x (.slice q k.bytes.length s) k.bytes
  sl : l.getD 10 false = true → l.getD 11 false = false → ∃ g0 q s, u 10 = .slice (some ⟨g0, 0, none⟩) 1 1 ∧ At x g0 46 (rowK k (.slice q k.bytes.length s)).toArray ∧ Row .u8 5 B x (.slice q k.bytes.length s) k.bytes
  last : l.getD 14 false = true → l.getD 11 false = true
  ord : l.getD 11 false = true → l.getD 4 false = true ∧ l.getD 10 false = true
  ord10 : l.getD 10 false = true → l.getD 9 false = true
section
variable {S g B : Nat} {w6 : World} {window most now : Int} {vl : Value} {ks : List K} {k : K} {l : Array Bool} {u : Nat → Value} {x y : World}
theorem JF.below (h : JF S g B w6 window most now vl ks k l u x) (hb : Below x.heap.size x y) : JF S g B w6 window most now vl ks k l u y where
  fr := h.fr.thenBelow hb
  row := h.row.ext hb
  done := fun e => by obtain ⟨p, c, h1, h2⟩ := h.done e; exact ⟨p, c, h1, h2.below hb⟩
  own := fun e => (h.own e).below hb
  cl := fun e e' => (h.cl e e').below hb
  bu := fun e e' => by obtain ⟨q, s, h1, h2⟩ := h.bu e e'; exact ⟨q, s, h1, h2.below hb⟩
  sl := fun e e' => by obtain ⟨g0, q, s, h1, h2, h3⟩ := h.sl e e'; exact ⟨g0, q, s, h1, h2.ext hb, h3.below hb⟩
  last := h.last
  ord := h.ord
  ord10 := h.ord10
theorem JF.pure (h : JF S g B w6 window most now vl ks k l u x) (j : Nat) (v : Value) (h8 : j ≠ 8) (h9 : j ≠ 9) (h10 : j ≠ 10) (h11 : j ≠ 11) (h14 : j ≠ 14) : JF S g B w6 window most now vl ks k (l.setIfInBounds j true) (MonoU.upd u j v) x := by
  have e11 : MonoU.upd u j v 11 = u 11 := by unfold MonoU.upd; rw [if_neg (fun e => h11 e.symm)]
  have e8 : MonoU.upd u j v 8 = u 8 := by unfold MonoU.upd; rw [if_neg (fun e => h8 e.symm)]
  have e9 : MonoU.upd u j v 9 = u 9 := by unfold MonoU.upd; rw [if_neg (fun e => h9 e.symm)]
  have e10 : MonoU.upd u j v 10 = u 10 := by unfold MonoU.upd; rw [if_neg (fun e => h10 e.symm)]
  have f8 := MonoU.getD_set_ne (l := l) h8
  have f9 := MonoU.getD_set_ne (l := l) h9
  have f10 := MonoU.getD_set_ne (l := l) h10
  have f11 := MonoU.getD_set_ne (l := l) h11
  have f14 := MonoU.getD_set_ne (l := l) h14
  obtain ⟨a1, a2, a3, a4, a5, a6, a7, a8, a9, b0⟩ := h
  constructor
  · exact a1
  · rw [f14, e11]; exact a2
  · rw [f11, e11]; exact a3
  · rw [f11]; exact a4
  · rw [f8, f11, e8]; exact a5
  · rw [f9, f11, e9]; exact a6
  · rw [f10, f11, e10]; exact a7
  · rw [f14, f11]; exact a8
  · rw [f11]; exact fun e => ⟨set_mono (a9 e).1, set_mono (a9 e).2⟩
  · rw [f10]; exact fun e => set_mono (b0 e)
/-- Operations 8, 9, 10 (what they yield is told), ahead of the append. -/
theorem JF.step8 (h : JF S g B w6 window most now vl ks k l u x) (v : Value) (hb : Below x.heap.size x y) (hv : Row .u8 5 B y v k.bytes) : JF S g B w6 window most now vl ks k (l.setIfInBounds 8 true) (MonoU.upd u 8 v) y := by
  obtain ⟨a1, a2, a3, a4, a5, a6, a7, a8, a9, b0⟩ := h.below hb
  constructor
  · exact a1
  · rw [MonoU.getD_set_ne (by decide)]; exact a2
  · rw [MonoU.getD_set_ne (by decide)]; exact a3
  · rw [MonoU.getD_set_ne (by decide)]; exact a4
  · intro _ _; exact hv
  · rw [MonoU.getD_set_ne (by decide), MonoU.getD_set_ne (by decide)]; exact a6
  · rw [MonoU.getD_set_ne (by decide), MonoU.getD_set_ne (by decide)]; exact a7
  · rw [MonoU.getD_set_ne (by decide), MonoU.getD_set_ne (by decide)]; exact a8
  · rw [MonoU.getD_set_ne (by decide)]; exact fun e => ⟨set_mono (a9 e).1, set_mono (a9 e).2⟩
  · rw [MonoU.getD_set_ne (by decide)]; exact fun e => set_mono (b0 e)
theorem JF.step9 (h : JF S g B w6 window most now vl ks k l u x) (q : Option Addr) (s : Nat) (hv : Row .u8 5 B x (.slice q k.bytes.length s) k.bytes) : JF S g B w6 window most now vl ks k (l.setIfInBounds 9 true) (MonoU.upd u 9 (.agg (rowK k (.slice q k.bytes.length s)).toArray)) x := by
  obtain ⟨a1, a2, a3, a4, a5, a6, a7, a8, a9, b0⟩ := h
  constructor
  · exact a1
  · rw [MonoU.getD_set_ne (by decide)]; exact a2
  · rw [MonoU.getD_set_ne (by decide)]; exact a3
  · rw [MonoU.getD_set_ne (by decide)]; exact a4
  · rw [MonoU.getD_set_ne (by decide), MonoU.getD_set_ne (by decide)]; exact a5
  · intro _ _; exact ⟨q, s, rfl, hv⟩
  · rw [MonoU.getD_set_ne (by decide), MonoU.getD_set_ne (by decide)]; exact a7
  · rw [MonoU.getD_set_ne (by decide), MonoU.getD_set_ne (by decide)]; exact a8
  · rw [MonoU.getD_set_ne (by decide)]; exact fun e => ⟨set_mono (a9 e).1, set_mono (a9 e).2⟩
  · rw [MonoU.getD_set_ne (by decide)]; exact fun e => set_mono (b0 e)
theorem JF.step10 (h : JF S g B w6 window most now vl ks k l u x) (h9 : l.getD 9 false = true) (g0 : Nat) (q : Option Addr) (s : Nat) (hb : Below x.heap.size x y) (hat : At y g0 46 (rowK k (.slice q k.bytes.length s)).toArray) (hv : Row .u8 5 B y (.slice q k.bytes.length s) k.bytes) : JF S g B w6 window most now vl ks k (l.setIfInBounds 10 true) (MonoU.upd u 10 (.slice (some ⟨g0, 0, none⟩) 1 1)) y := by
  obtain ⟨a1, a2, a3, a4, a5, a6, a7, a8, a9, b0⟩ := h.below hb
  constructor
  · exact a1
  · rw [MonoU.getD_set_ne (by decide)]; exact a2
  · rw [MonoU.getD_set_ne (by decide)]; exact a3
  · rw [MonoU.getD_set_ne (by decide)]; exact a4
  · rw [MonoU.getD_set_ne (by decide), MonoU.getD_set_ne (by decide)]; exact a5
  · rw [MonoU.getD_set_ne (by decide), MonoU.getD_set_ne (by decide)]; exact a6
  · intro _ _; exact ⟨g0, q, s, rfl, hat, hv⟩
  · rw [MonoU.getD_set_ne (by decide), MonoU.getD_set_ne (by decide)]; exact a8
  · rw [MonoU.getD_set_ne (by decide)]; exact fun e => ⟨set_mono (a9 e).1, set_mono (a9 e).2⟩
  · intro _; exact set_mono h9
/-- The append. -/
theorem JF.step11 (h : JF S g B w6 window most now vl ks k l u x) (hz : 11 < l.size) (h14 : l.getD 14 false = false) (h4 : l.getD 4 false = true) (h10 : l.getD 10 false = true) (p : Option Addr) (c : Nat) (hg : x.grownBy y vl.ownBlock) (hvl : ∀ q, vl.ownBlock = some q → q = g) (hSg : S ≠ g) (ho : OwnK B y (.slice p (ks.length + 1) c) (ks ++ [k])) :
    JF S g B w6 window most now vl ks k (l.setIfInBounds 11 true) (MonoU.upd u 11 (.slice p (ks.length + 1) c)) y := by
  obtain ⟨a1, a2, a3, a4, a5, a6, a7, a8, a9, b0⟩ := h
  have t : (l.setIfInBounds 11 true).getD 11 false = true := MonoU.getD_set_same hz
  have hg' : x.grownBy y (some g) := ⟨hg.os, hg.tape, hg.output, hg.size, fun j hj hn => hg.block j hj (fun e => hn (by rw [hvl j e.symm]))⟩
  constructor
  · exact a1.grown hg' (.inr rfl)
  · rw [MonoU.getD_set_ne (by decide), h14, if_neg (by decide)]
    rw [h14, if_neg (by decide)] at a2
    exact a2.grown hg' hSg
  · intro _; exact ⟨p, c, rfl, ho⟩
  · intro e; rw [t] at e; cases e
  · intro _ e; rw [t] at e; cases e
  · intro _ e; rw [t] at e; cases e
  · intro _ e; rw [t] at e; cases e
  · intro _; exact t
  · intro _; exact ⟨set_mono h4, set_mono h10⟩
  · rw [MonoU.getD_set_ne (by decide)]; exact fun e => set_mono (b0 e)
/-- The store of the list. -/
theorem JF.step14 (h : JF S g B w6 window most now vl ks k l u x) (hz : 14 < l.size) (h11 : l.getD 11 false = true) (v : Value) (hg : x.grownBy y (some S)) (hSB : S < B) (hat : At y S 39 (rowS window most now (u 11))) :
    JF S g B w6 window most now vl ks k (l.setIfInBounds 14 true) (MonoU.upd u 14 v) y := by
  obtain ⟨a1, a2, a3, a4, a5, a6, a7, a8, a9, b0⟩ := h
  have f11 : (l.setIfInBounds 14 true).getD 11 false = true := by rw [MonoU.getD_set_ne (by decide)]; exact h11
  constructor
  · exact a1.grown hg (.inl rfl)
  · rw [MonoU.getD_set_same hz, if_pos rfl]; exact hat
  · intro _
    obtain ⟨p, c, h1, h2⟩ := a3 h11
    exact ⟨p, c, h1, h2.keptLt hg hSB⟩
  · intro e; rw [f11] at e; cases e
  · intro _ e; rw [f11] at e; cases e
  · intro _ e; rw [f11] at e; cases e
  · intro _ e; rw [f11] at e; cases e
  · intro _; exact f11
  · rw [MonoU.getD_set_ne (by decide)]; exact fun e => ⟨set_mono (a9 e).1, set_mono (a9 e).2⟩
  · rw [MonoU.getD_set_ne (by decide)]; exact fun e => set_mono (b0 e)
end
/-- The list's block, or one that is not there yet. -/
theorem OwnK.gOf {B S n c : Nat} {w : World} {p : Option Addr} {ks : List K} (h : OwnK B w (.slice p n c) ks) (hSB : S < B) (hB : B ≤ w.heap.size) :
    ∃ g, (∀ q, (Value.slice p n c).ownBlock = some q → q = g) ∧ S ≠ g ∧ B ≤ g ∧ (∀ (d : Value) (xs : List Int), Reads .u8 w d xs → 0 < xs.length → d.ownBlock ≠ some g) ∧ (∀ gk cs, At w gk 42 cs → gk ≠ g) := by
  obtain ⟨zs, p', c', ee, h2, h3, h4, h5, h6⟩ := h
  obtain ⟨rfl, rfl, rfl⟩ : p' = p ∧ ks.length = n ∧ c' = c := by cases ee; exact ⟨rfl, rfl, rfl⟩
  rcases h6 with ⟨rfl, rfl⟩ | ⟨g, off, cur, rfl, hBg, hat, hsz, hnb, hc⟩
  · refine ⟨w.heap.size, fun q hq => (by cases hq), by omega, hB, fun d xs hr h0 e => ?_, fun gk cs hk e => ?_⟩
    · obtain ⟨b, hb, hlt⟩ := reads_lt hr h0
      rw [e] at hb; cases hb; omega
    · have := hk.lt; omega
  · refine ⟨g, fun q hq => (by cases hq; rfl), by omega, hBg, fun d xs hr h0 => reads_apart hat hnb hr h0, fun gk cs hk e => ?_⟩
    subst e
    have h1 : w.heap[gk]? = _ := hat
    rw [show w.heap[gk]? = _ from hk] at h1
    simp at h1
theorem run_key {x : World} {gk : Nat} {host : ByteArray} {fin : Int} (hat : At x gk 42 #[.string host, .int .u32 fin]) : (Instr.loadAt 42 (.pointer (some ⟨gk, 0, none⟩))).run Try.prog x = .ok (.agg #[.string host, .int .u32 fin]) x := by
  have hr := run_loadVar_mid (P := Try.prog) x gk 0 42 (#[.string host, .int .u32 fin] : Array Value).toList _ (Ops.range_at hat) Try.underlying42 rfl (by kernel_rfl)
  simp only [Instr.loadAt, Instr.sureAddr, Sem.run_bind, Sem.run_pure, Result.andThen_ok, hr]
end Go.Proofs.Ytmbhiajhlfjknaa.Dup
