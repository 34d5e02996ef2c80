/-
  Stores of answers: their cells; lists of what is kept, of the call's own, from some place on (plain). No walk.
-/
import Derived.Test.YtmbhiajhlfjknaaReg
import Derived.Test.YtmbhiajhlfjknaaWire1
import Derived.Deep.DeepMust
import Derived.Lib.Hide
namespace Go.Proofs.Ytmbhiajhlfjknaa.Dup
open Go.RowKit Mem Cells Ops
set_option linter.unusedVariables false
set_option linter.unusedSimpArgs false

/-- What is kept. -/
structure K where
  host : ByteArray
  fin : Int
  at_ : Int
  bytes : List Int
def i64 (n : Int) : Prop := -9223372036854775808 ≤ n ∧ n ≤ 9223372036854775807
def K.ok (k : K) : Prop := (0 ≤ k.fin ∧ k.fin ≤ 4294967295) ∧ (0 ≤ k.at_ ∧ k.at_ ≤ 1099511627776) ∧ k.bytes.length ≤ 140737488355300
def rowK (k : K) (d : Value) : List Value := [.string k.host, .int .u32 k.fin, .int .i64 k.at_, d]
def flatK (zs : List (K × Value)) : List Value := zs.flatMap fun z => rowK z.1 z.2
theorem flatK_append (xs ys : List (K × Value)) : flatK (xs ++ ys) = flatK xs ++ flatK ys := by simp [flatK]
theorem flatK_length (zs : List (K × Value)) : (flatK zs).length = zs.length * 4 := by
  induction zs with
  | nil => rfl
  | cons z zs ih =>
    have e : flatK (z :: zs) = rowK z.1 z.2 ++ flatK zs := rfl
    rw [e, List.length_append, ih, List.length_cons]
    simp [rowK]; omega
theorem flatK_get (zs : List (K × Value)) (i : Nat) (z : K × Value) (h : zs[i]? = some z) (j : Nat) (hj : j < 4) : (flatK zs)[i * 4 + j]? = (rowK z.1 z.2)[j]? := by
  induction zs generalizing i with
  | nil => simp at h
  | cons y zs ih =>
    have e : flatK (y :: zs) = rowK y.1 y.2 ++ flatK zs := rfl
    have hl : (rowK y.1 y.2).length = 4 := rfl
    rw [e]
    cases i with
    | zero =>
      simp at h
      subst h
      rw [List.getElem?_append_left (by rw [hl]; omega)]
      simp
    | succ i =>
      rw [List.getElem?_append_right (by rw [hl]; omega), hl, show (i + 1) * 4 + j - 4 = i * 4 + j from by omega]
      exact ih i (by simpa using h)
def NoByte (cs : Array Value) : Prop := ∀ (j : Nat) (x : Int), cs[j]? ≠ some (.int .u8 x)
theorem reads_apart {w : World} {v : Value} {xs : List Int} {g : Nat} {T : TypeId} {cs : Array Value} (hat : At w g T cs) (hc : NoByte cs) (h : Reads .u8 w v xs) (h0 : 0 < xs.length) : v.ownBlock ≠ some g := by
  obtain ⟨p, c, rfl, _, _, _, h4⟩ := h
  obtain ⟨b, off, rfl, hlt, hr⟩ := h4 h0
  intro e
  have e' : b = g := Option.some.inj e
  subst e'
  have := hr 0 h0
  rw [Nat.add_zero, hat.cell off] at this
  exact hc _ _ this
theorem reads_grown {k : IntKind} {w w' : World} {d : Value} {xs : List Int} {r : Option Nat} (h : Reads k w d xs) (hg : w.grownBy w' r) (hne : 0 < xs.length → ∀ q, r = some q → d.ownBlock ≠ some q) : Reads k w' d xs := by
  obtain ⟨p, c, rfl, h1, h2, h3, h4⟩ := h
  refine ⟨p, c, rfl, h1, h2, h3, fun h0 => ?_⟩
  obtain ⟨b, off, rfl, hlt, hc⟩ := h4 h0
  refine ⟨b, off, rfl, Nat.lt_of_lt_of_le hlt hg.size, fun i hi => ?_⟩
  exact hg.cell (hc i hi) (fun e => hne h0 b e.symm rfl)
theorem reads_lt {k : IntKind} {w : World} {d : Value} {xs : List Int} (h : Reads k w d xs) (h0 : 0 < xs.length) : ∃ b, d.ownBlock = some b ∧ b < w.heap.size := by
  obtain ⟨p, c, rfl, h1, h2, h3, h4⟩ := h
  obtain ⟨b, off, rfl, hlt, hc⟩ := h4 h0
  exact ⟨b, rfl, hlt⟩
/-- The slice v holds these, in a block of the call's own (B or greater), from some place on. -/
def OwnK (B : Nat) (w : World) (v : Value) (ks : List K) : Prop :=
  ∃ (zs : List (K × Value)) (p : Option Addr) (c : Nat), v = .slice p ks.length c ∧ zs.map Prod.fst = ks ∧ ks.length ≤ c ∧ c ≤ maxLen ∧ (∀ z ∈ zs, Reads .u8 w z.2 z.1.bytes ∧ (0 < z.1.bytes.length → ∀ q, z.2.ownBlock = some q → B ≤ q)) ∧
    ((p = none ∧ c = 0) ∨ ∃ g off cur, p = some ⟨g, off, none⟩ ∧ B ≤ g ∧ At w g 46 cur ∧ off + c * 4 ≤ cur.size ∧ NoByte cur ∧ ∀ j u, (flatK zs)[j]? = some u → cur[off + j]? = some u)
theorem OwnK.nil (B : Nat) (w : World) : OwnK B w (.slice none 0 0) [] := ⟨[], none, 0, rfl, rfl, by simp, by simp, (fun z hz => by cases hz), .inl ⟨rfl, rfl⟩⟩
theorem OwnK.shape {B : Nat} {w : World} {v : Value} {ks : List K} (h : OwnK B w v ks) : ∃ p c, v = .slice p ks.length c ∧ ks.length ≤ c ∧ c ≤ maxLen := by
  obtain ⟨_, p, c, h1, _, h3, h4, _⟩ := h
  exact ⟨p, c, h1, h3, h4⟩
theorem OwnK.lt {B : Nat} {w : World} {v : Value} {ks : List K} (h : OwnK B w v ks) (k : Nat) (hk : v.ownBlock = some k) : B ≤ k ∧ k < w.heap.size := by
  obtain ⟨_, p, c, rfl, _, _, _, _, ⟨rfl, _⟩ | ⟨g, off, cur, rfl, hB, hat, _⟩⟩ := h
  · cases hk
  · cases hk
    exact ⟨hB, hat.lt⟩
theorem OwnK.mono {B B' : Nat} {w : World} {v : Value} {ks : List K} (h : OwnK B w v ks) (hB : B' ≤ B) : OwnK B' w v ks := by
  obtain ⟨zs, p, c, h1, h2, h3, h4, h5, h6⟩ := h
  refine ⟨zs, p, c, h1, h2, h3, h4, fun z hz => ⟨(h5 z hz).1, fun h0 q hq => Nat.le_trans hB ((h5 z hz).2 h0 q hq)⟩, ?_⟩
  rcases h6 with h6 | ⟨g, off, cur, e, hb, r⟩
  · exact .inl h6
  · exact .inr ⟨g, off, cur, e, Nat.le_trans hB hb, r⟩
theorem OwnK.below {B : Nat} {w w' : World} {v : Value} {ks : List K} (h : OwnK B w v ks) (hb : Below w.heap.size w w') : OwnK B w' v ks := by
  obtain ⟨zs, p, c, h1, h2, h3, h4, h5, h6⟩ := h
  refine ⟨zs, p, c, h1, h2, h3, h4, fun z hz => ⟨(h5 z hz).1.below hb, (h5 z hz).2⟩, ?_⟩
  rcases h6 with h6 | ⟨g, off, cur, e, hB, hat, r⟩
  · exact .inl h6
  · exact .inr ⟨g, off, cur, e, hB, hat.ext hb, r⟩
/-- A store into another block, that holds no bytes. -/
theorem OwnK.kept {B : Nat} {w w' : World} {v : Value} {ks : List K} {g : Nat} {T : TypeId} {cs : Array Value} (h : OwnK B w v ks) (hg : w.grownBy w' (some g)) (hne : v.ownBlock ≠ some g) (hat : At w g T cs) (hc : NoByte cs) : OwnK B w' v ks := by
  obtain ⟨zs, p, c, rfl, h2, h3, h4, h5, h6⟩ := h
  refine ⟨zs, p, c, rfl, h2, h3, h4, fun z hz => ⟨reads_grown (h5 z hz).1 hg (fun h0 q hq => by cases hq; exact reads_apart hat hc (h5 z hz).1 h0), (h5 z hz).2⟩, ?_⟩
  rcases h6 with h6 | ⟨g', off, cur, rfl, hB, hat', r⟩
  · exact .inl h6
  · exact .inr ⟨g', off, cur, rfl, hB, hat'.grown hg (fun e => hne (by rw [e]; rfl)), r⟩
/-- The elements. -/
theorem OwnK.elem {B : Nat} {w : World} {v : Value} {ks : List K} (h : OwnK B w v ks) (i : Nat) (hi : i < ks.length) :
    ∃ k d, ks[i]? = some k ∧ k ∈ ks ∧ Reads .u8 w d k.bytes ∧ (0 < k.bytes.length → ∀ q, d.ownBlock = some q → B ≤ q) ∧ ∃ b off c, v = .slice (some ⟨b, off, none⟩) ks.length c ∧ b < w.heap.size ∧ w.rangeAt b (off + i * 4) (rowK k d) := by
  obtain ⟨zs, p, c, rfl, h2, h3, h4, h5, h6⟩ := h
  have hzl : zs.length = ks.length := by rw [← h2, List.length_map]
  obtain ⟨z, hz⟩ : ∃ z, zs[i]? = some z := ⟨_, List.getElem?_eq_getElem (show i < zs.length by omega)⟩
  have hk : ks[i]? = some z.1 := by
    have : (zs.map Prod.fst)[i]? = some z.1 := by rw [List.getElem?_map, hz]; rfl
    rwa [h2] at this
  obtain ⟨r1, r2⟩ := h5 _ (List.mem_of_getElem? hz)
  rcases h6 with ⟨_, rfl⟩ | ⟨g, off, cur, rfl, hB, hat, hs, _, hc⟩
  · omega
  · refine ⟨z.1, z.2, hk, List.mem_of_getElem? hk, r1, r2, g, off, c, rfl, hat.lt, fun j u hj => ?_⟩
    have hj4 : j < 4 := (List.getElem?_eq_some_iff.1 hj).1
    rw [hat.cell, Nat.add_assoc]
    exact hc _ _ (by rw [flatK_get zs i _ hz j hj4]; exact hj)
end Go.Proofs.Ytmbhiajhlfjknaa.Dup
