/-
  The reference's net in memory; two nets beside one another, and blocks that neither touches. No walk.
-/
import Derived.Test.YtmdhpjbahenbhaaList
namespace Go.Proofs.Ytmdhpjbahenbhaa.Net
open Go.RowKit Mem Cells Ops Go.Maps
set_option linter.unusedVariables false
set_option linter.unusedSimpArgs false

/-- The reference's net S. -/
structure RHas (X : Nat → Prop) (w : World) (S : Nat) (hosts : Int) (fs : List F) (cut : Int → Int → Int → Bool) (zs : List (F × Value)) (p : Option Addr) (m c : Nat) (ds : Array Value) : Prop where
  row : At w S 49 ds
  size : ds.size = 130
  h0 : ds[0]? = some (.int .i64 hosts)
  h1 : ds[1]? = some (.slice p m c)
  says : ∀ f t q : Nat, f < 8 → t < 8 → q < 2 → ds[2 + f * 16 + t * 2 + q]? = some (.bool (cut f t q))
  xS : X S
  fst : zs.map Prod.fst = fs
  len : zs.length = m
  list : OwnF X w (.slice p m c) zs
  ok : fs.length ≤ 1024 ∧ ∀ f ∈ fs, f.ok
  hosts : 1 ≤ hosts ∧ hosts ≤ 8
def RNet (X : Nat → Prop) (w : World) (S : Nat) (hosts : Int) (fs : List F) (cut : Int → Int → Int → Bool) : Prop := ∃ zs p m c ds, RHas X w S hosts fs cut zs p m c ds
section
variable {X Y : Nat → Prop} {w w' : World} {S : Nat} {hosts : Int} {fs : List F} {cut : Int → Int → Int → Bool} {zs : List (F × Value)} {p : Option Addr} {m c : Nat} {ds : Array Value}
theorem RHas.mono (h : RHas X w S hosts fs cut zs p m c ds) (hX : ∀ k, X k → Y k) : RHas Y w S hosts fs cut zs p m c ds := ⟨h.row, h.size, h.h0, h.h1, h.says, hX _ h.xS, h.fst, h.len, h.list.mono hX, h.ok, h.hosts⟩
theorem RHas.below (h : RHas X w S hosts fs cut zs p m c ds) (hb : Below w.heap.size w w') : RHas X w' S hosts fs cut zs p m c ds := ⟨h.row.ext hb, h.size, h.h0, h.h1, h.says, h.xS, h.fst, h.len, h.list.below hb, h.ok, h.hosts⟩
theorem At.others {g T : Nat} {cs : Array Value} (h : At w g T cs) (hb : ButX Y w w') (hx : ¬ Y g) : At w' g T cs := by
  unfold At at h ⊢
  rw [hb.block g (At.lt h) hx]
  exact h
theorem RHas.others (h : RHas X w S hosts fs cut zs p m c ds) (hb : ButX Y w w') (hxy : ∀ k, X k → ¬ Y k) : RHas X w' S hosts fs cut zs p m c ds :=
  ⟨At.others h.row hb (hxy S h.xS), h.size, h.h0, h.h1, h.says, h.xS, h.fst, h.len, h.list.others hb hxy, h.ok, h.hosts⟩
theorem RNet.mono (h : RNet X w S hosts fs cut) (hX : ∀ k, X k → Y k) : RNet Y w S hosts fs cut := by obtain ⟨zs, p, m, c, ds, h⟩ := h; exact ⟨zs, p, m, c, ds, h.mono hX⟩
theorem RNet.below (h : RNet X w S hosts fs cut) (hb : Below w.heap.size w w') : RNet X w' S hosts fs cut := by obtain ⟨zs, p, m, c, ds, h⟩ := h; exact ⟨zs, p, m, c, ds, h.below hb⟩
theorem RNet.others (h : RNet X w S hosts fs cut) (hb : ButX Y w w') (hxy : ∀ k, X k → ¬ Y k) : RNet X w' S hosts fs cut := by obtain ⟨zs, p, m, c, ds, h⟩ := h; exact ⟨zs, p, m, c, ds, h.others hb hxy⟩
theorem RNet.ok (h : RNet X w S hosts fs cut) : fs.length ≤ 1024 ∧ ∀ f ∈ fs, f.ok := by obtain ⟨zs, p, m, c, ds, h⟩ := h; exact h.ok
theorem RNet.lt (h : RNet X w S hosts fs cut) : S < w.heap.size ∧ X S := by obtain ⟨zs, p, m, c, ds, h⟩ := h; exact ⟨h.row.lt, h.xS⟩
theorem RNet.old (h : RNet X w S hosts fs cut) (hb : Below w.heap.size w w') : RNet (more X w w') w' S hosts fs cut ∧ ButX X w w' := ⟨(h.below hb).mono more_self, ButX.ofBelow hb⟩
theorem RHas.flen (h : RHas X w S hosts fs cut zs p m c ds) : fs.length = m := by rw [← h.fst, List.length_map, h.len]
theorem RHas.get (h : RHas X w S hosts fs cut zs p m c ds) (k : Nat) (hk : k < m) : ∃ z, zs[k]? = some z ∧ fs[k]? = some z.1 := by
  have hl := h.len
  refine ⟨zs[k]'(by omega), by simp, ?_⟩
  rw [← h.fst]
  simp [show k < zs.length by omega]
/-- The list is put anew. -/
theorem RHas.put {fs' : List F} {zs' : List (F × Value)} {p' : Option Addr} {m' c' : Nat} (h : RHas X w S hosts fs cut zs p m c ds) (hX : ∀ k, X k → Y k) (hat : At w' S 49 (ds.set! 1 (.slice p' m' c'))) (hf : zs'.map Prod.fst = fs') (hl : zs'.length = m') (ho : OwnF Y w' (.slice p' m' c') zs') (hok : fs'.length ≤ 1024 ∧ ∀ f ∈ fs', f.ok) :
    RHas Y w' S hosts fs' cut zs' p' m' c' (ds.set! 1 (.slice p' m' c')) := by
  have hs := h.size
  refine ⟨hat, by simp [hs], ?_, ?_, fun f t q hf ht hq => ?_, hX _ h.xS, hf, hl, ho, hok, h.hosts⟩
  · have := h.h0
    simp [Array.set!_eq_setIfInBounds, Array.getElem?_setIfInBounds_ne, this]
  · simp [Array.set!_eq_setIfInBounds, hs]
  · rw [Array.set!_eq_setIfInBounds, Array.getElem?_setIfInBounds_ne (by omega)]
    exact h.says f t q hf ht hq
end
/-- The list and the net of the reference, behind an append and a store. -/
theorem Fin.rnet {X : Nat → Prop} {w0 x : World} {S : Nat} {hosts : Int} {fs : List F} {cut : Int → Int → Int → Bool} {zs : List (F × Value)} {p : Option Addr} {m c : Nat} {ds : Array Value} {f : F} {v : Value}
    (h : RHas X w0 S hosts fs cut zs p m c ds) (hf : Fin X w0 S 49 ds (.slice p m c) zs f v x) (hl : m < 1024) (hok : f.ok) :
    RNet (more X w0 x) x S hosts (fs ++ [f]) cut ∧ ButX X w0 x := by
  obtain ⟨h1, h2, d, h3⟩ := hf.out h.list h.xS (by decide) (by decide)
  obtain ⟨p', c', rfl, _⟩ := h3.shape
  have hfl := h.flen
  have e1 : (fs ++ [f]).length = m + 1 := by simp [hfl]
  refine ⟨⟨_, p', _, c', _, h.put more_self h2 (by rw [List.map_append, h.fst]; rfl) rfl h3 ⟨by rw [e1]; omega, fun g hg => ?_⟩⟩, h1⟩
  rcases List.mem_append.1 hg with hg | hg
  · exact h.ok.2 g hg
  · rw [List.mem_singleton] at hg; subst hg; exact hok

/-! Two nets, and blocks Z that neither has. -/
structure Pair (Z : Nat → Prop) (w : World) (S R : Nat) (hosts : Int) (fs gs : List F) (cut cut' : Int → Int → Int → Bool) (n : Nat) (X Y : Nat → Prop) : Prop where
  net : Net X w S hosts fs cut n
  ref : RNet Y w R hosts gs cut'
  apart : ∀ k, X k → ¬ Y k
  x : ∀ k, X k → ¬ Z k ∧ k < w.heap.size
  y : ∀ k, Y k → ¬ Z k ∧ k < w.heap.size
  z : ∀ k, Z k → k < w.heap.size
def Two (Z : Nat → Prop) (w : World) (S R : Nat) (hosts : Int) (fs gs : List F) (cut cut' : Int → Int → Int → Bool) (n : Nat) : Prop := ∃ X Y, Pair Z w S R hosts fs gs cut cut' n X Y
section
variable {Z Z' : Nat → Prop} {w w' : World} {S R : Nat} {hosts : Int} {fs gs fs' gs' : List F} {cut cut' ct : Int → Int → Int → Bool} {n n' : Nat} {X Y : Nat → Prop}
theorem Pair.left (h : Pair Z w S R hosts fs gs cut cut' n X Y) (hn : Net (more X w w') w' S hosts fs' ct n') (hb : ButX X w w') : Two Z w' S R hosts fs' gs ct cut' n' ∧ ButX (fun k => ¬ Z k) w w' := by
  have hs := hb.size
  refine ⟨⟨more X w w', Y, hn, h.ref.others hb (fun k hy hx => h.apart k hx hy), ?_, ?_, fun k hk => ⟨(h.y k hk).1, by have := (h.y k hk).2; omega⟩, fun k hk => by have := h.z k hk; omega⟩, hb.mono fun k hk => (h.x k hk).1⟩
  · rintro k (hk | hk) hy
    · exact h.apart k hk hy
    · have := (h.y k hy).2; omega
  · rintro k (hk | hk)
    · exact ⟨(h.x k hk).1, by have := (h.x k hk).2; omega⟩
    · exact ⟨fun hz => by have := h.z k hz; omega, hk.2⟩
theorem Pair.right (h : Pair Z w S R hosts fs gs cut cut' n X Y) (hn : RNet (more Y w w') w' R hosts gs' ct) (hb : ButX Y w w') : Two Z w' S R hosts fs gs' cut ct n ∧ ButX (fun k => ¬ Z k) w w' := by
  have hs := hb.size
  refine ⟨⟨X, more Y w w', h.net.others hb h.apart, hn, ?_, fun k hk => ⟨(h.x k hk).1, by have := (h.x k hk).2; omega⟩, ?_, fun k hk => by have := h.z k hk; omega⟩, hb.mono fun k hk => (h.y k hk).1⟩
  · rintro k hx (hk | hk)
    · exact h.apart k hx hk
    · have := (h.x k hx).2; omega
  · rintro k (hk | hk)
    · exact ⟨(h.y k hk).1, by have := (h.y k hk).2; omega⟩
    · exact ⟨fun hz => by have := h.z k hz; omega, hk.2⟩
theorem Two.below (h : Two Z w S R hosts fs gs cut cut' n) (hb : Below w.heap.size w w') : Two Z w' S R hosts fs gs cut cut' n := by
  obtain ⟨X, Y, h⟩ := h
  have hs := hb.size
  exact ⟨X, Y, h.net.below hb, h.ref.below hb, h.apart, fun k hk => ⟨(h.x k hk).1, by have := (h.x k hk).2; omega⟩, fun k hk => ⟨(h.y k hk).1, by have := (h.y k hk).2; omega⟩, fun k hk => by have := h.z k hk; omega⟩
/-- What was made since is none of theirs. -/
theorem Two.new (h : Two Z w S R hosts fs gs cut cut' n) (hb : Below w.heap.size w w') : Two (more Z w w') w' S R hosts fs gs cut cut' n := by
  obtain ⟨X, Y, h⟩ := h
  have hs := hb.size
  refine ⟨X, Y, h.net.below hb, h.ref.below hb, h.apart, fun k hk => ⟨?_, by have := (h.x k hk).2; omega⟩, fun k hk => ⟨?_, by have := (h.y k hk).2; omega⟩, ?_⟩
  · rintro (hz | hz)
    · exact (h.x k hk).1 hz
    · have := (h.x k hk).2; omega
  · rintro (hz | hz)
    · exact (h.y k hk).1 hz
    · have := (h.y k hk).2; omega
  · rintro k (hz | hz)
    · have := h.z k hz; omega
    · exact hz.2
theorem Two.less (h : Two Z w S R hosts fs gs cut cut' n) (hz : ∀ k, Z' k → Z k) : Two Z' w S R hosts fs gs cut cut' n := by
  obtain ⟨X, Y, h⟩ := h
  exact ⟨X, Y, h.net, h.ref, h.apart, fun k hk => ⟨fun e => (h.x k hk).1 (hz k e), (h.x k hk).2⟩, fun k hk => ⟨fun e => (h.y k hk).1 (hz k e), (h.y k hk).2⟩, fun k hk => h.z k (hz k hk)⟩
end
theorem But.trans {Z : Nat → Prop} {a b c : World} (h : ButX (fun k => ¬ Z k) a b) (k : ButX (fun k => ¬ Z k) b c) : ButX (fun k => ¬ Z k) a c := h.trans (k.mono more_self)
theorem But.less {Z Z' : Nat → Prop} {a b : World} (h : ButX (fun k => ¬ Z k) a b) (hz : ∀ k, Z' k → Z k) : ButX (fun k => ¬ Z' k) a b := h.mono fun k hk e => hk (hz k e)
theorem But.at_ {Z : Nat → Prop} {a b : World} {g T : Nat} {cs : Array Value} (hat : At a g T cs) (h : ButX (fun k => ¬ Z k) a b) (hz : Z g) : At b g T cs := At.others hat h (fun e => e hz)
theorem But.cell {Z : Nat → Prop} {a b : World} {g j : Nat} (h : ButX (fun k => ¬ Z k) a b) (hz : Z g) (hl : g < a.heap.size) : b.cell? ⟨g, j, none⟩ = a.cell? ⟨g, j, none⟩ := by
  have := h.block g hl (fun e => e hz)
  simp only [World.cell?, this]
theorem But.reads {Z : Nat → Prop} {a b : World} {k : IntKind} {v : Value} {xs : List Int} (h : ButX (fun k => ¬ Z k) a b) (hr : Reads k a v xs) (hz : ∀ g o, v = .slice (some ⟨g, o, none⟩) xs.length (match v with | .slice _ _ c => c | _ => 0) → g < a.heap.size → Z g) : Reads k b v xs := by
  obtain ⟨p, c, rfl, h1, h2, h3, h4⟩ := hr
  refine ⟨p, c, rfl, h1, h2, h3, fun h0 => ?_⟩
  obtain ⟨g, off, rfl, hlt, hc⟩ := h4 h0
  refine ⟨g, off, rfl, Nat.lt_of_lt_of_le hlt h.size, fun i hi => ?_⟩
  rw [← hc i hi]
  exact But.cell h (hz g off rfl hlt) hlt
end Go.Proofs.Ytmdhpjbahenbhaa.Net
