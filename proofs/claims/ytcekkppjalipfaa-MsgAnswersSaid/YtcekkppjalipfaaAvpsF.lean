/-
  A list of attributes of the call's own stays behind a store into a block that holds no bytes. No program is looked into here.
-/
import Derived.Test.YtcekkppjalipfaaAvpsO
namespace Go.Proofs.Ytcekkppjalipfaa.Avps
open Go.RowKit Mem Cells
set_option linter.unusedVariables false

/-- No cell is a byte. -/
def NoByte (cs : Array Value) : Prop := ∀ (j : Nat) (x : Int), cs[j]? ≠ some (.int .u8 x)
theorem reads_apart {w : World} {v : Value} {xs : List Int} {g : Nat} {T : TypeId} {cs : Array Value} (hat : At w g T cs) (hc : NoByte cs) (h : Reads .u8 w v xs) (h0 : 0 < xs.length) : v.ownBlock ≠ some g := by
  obtain ⟨p, c, rfl, _, _, _, h4⟩ := h
  obtain ⟨b, off, rfl, _, hcell⟩ := h4 h0
  intro e
  have e' : b = g := Option.some.inj e
  subst e'
  have h1 := hcell 0 h0
  rw [hat.cell] at h1
  exact hc _ _ h1
theorem OwnL.kept {T B : Nat} {w w' : World} {v : Value} {al : List A} {g : Nat} {T' : TypeId} {cs : Array Value} (h : OwnL T B w v al) (hg : w.grownBy w' (some g)) (hB : g < B) (hat : At w g T' cs) (hc : NoByte cs) : OwnL T B w' v al := by
  obtain ⟨zs, h1, h2, h3⟩ := h
  have hlt := h3.lt
  refine ⟨zs, h1, fun z hz => ⟨reads_grown (h2 z hz).1 hg (fun h0 q hq => ?_), (h2 z hz).2⟩, h3.1, ?_⟩
  · cases hq
    exact reads_apart hat hc (h2 z hz).1 h0
  · rcases h3.2 with hn | ⟨g', cap, cur, rfl, hbb, hgg, rest⟩
    · exact .inl hn
    · refine .inr ⟨g', cap, cur, rfl, hbb, ?_, rest⟩
      rw [hg.block g' (Array.getElem?_eq_some_iff.1 hgg).1 (fun e => by have e' : g' = g := Option.some.inj e; omega)]
      exact hgg
theorem ReadsL.kept {w w' : World} {v : Value} {al : List A} {g : Nat} {T' : TypeId} {cs : Array Value} (h : ReadsL w v al) (hg : w.grownBy w' (some g)) (hne : 0 < al.length → v.ownBlock ≠ some g) (hat : At w g T' cs) (hc : NoByte cs) : ReadsL w' v al := by
  obtain ⟨p, c, zs, rfl, h1, h2, h3, h4, h5, h6⟩ := h
  refine ⟨p, c, zs, rfl, h1, h2, h3, h4, fun z hz => reads_grown (h5 z hz) hg (fun h0 q hq => by cases hq; exact reads_apart hat hc (h5 z hz) h0), fun h0 => ?_⟩
  obtain ⟨b, off, rfl, hlt, hc'⟩ := h6 h0
  refine ⟨b, off, rfl, Nat.lt_of_lt_of_le hlt hg.size, fun j hj => ?_⟩
  have hb : b ≠ g := fun e => hne h0 (by rw [e]; rfl)
  rw [← hc' j hj]
  exact World.cell?_of_block (w := w) (hg.block b hlt (fun e => hb (Option.some.inj e)))
end Go.Proofs.Ytcekkppjalipfaa.Avps
