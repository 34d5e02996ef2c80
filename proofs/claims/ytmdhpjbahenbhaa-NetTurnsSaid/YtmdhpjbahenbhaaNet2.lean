/-
  Nets: which paths are cut (a map of routes); what calls make of a list of frames (plain); the net in memory. No walk.
-/
import Derived.Test.YtmdhpjbahenbhaaNet0
namespace Go.Proofs.Ytmdhpjbahenbhaa.Net
open Go.RowKit Mem Cells Ops Go.Maps
set_option linter.unusedVariables false
set_option linter.unusedSimpArgs false

/-! The map of routes. -/
def keyR (f t q : Int) : Lit := .string (keyBytes [.int .i64 f, .int .i64 t, .int .i64 q])
theorem laid : laidOutB Try.prog = true := by kernel_rfl
theorem keyed65 : Keyed Try.prog 65 := Keyed.of_law (deep_law_laid laid (m := Try.prog.types.size + 1) (of_decide_eq_true (by kernel_rfl)) (of_decide_eq_true (by kernel_rfl)) (by kernel_rfl) (by rw [Try.underlying65]))
theorem cells65 : Try.prog.cellsOf 65 = 3 := by kernel_rfl
theorem cells3 : Try.prog.cellsOf 3 = 1 := by kernel_rfl
theorem lits3 (d : Nat) (n : Int) (h : (Lit.int .i64 n).wf = true) : Try.prog.keyLits (d + 1) 3 [.int .i64 n] = some [.int .i64 n] := by
  unfold Program.keyLits
  simp only [Try.underlying3, h]
  rfl
theorem lits65 (d : Nat) (f t q : Int) (w1 : (Lit.int .i64 f).wf = true) (w2 : (Lit.int .i64 t).wf = true) (w3 : (Lit.int .i64 q).wf = true) : Try.prog.keyLits (d + 1 + 1) 65 [.int .i64 f, .int .i64 t, .int .i64 q] = some [.int .i64 f, .int .i64 t, .int .i64 q] := by
  unfold Program.keyLits
  simp only [Try.underlying65, cells65]
  simp [cells3, lits3 d f w1, lits3 d t w2, lits3 d q w3]
theorem key_lits (f t q : Int) (w1 : (Lit.int .i64 f).wf = true) (w2 : (Lit.int .i64 t).wf = true) (w3 : (Lit.int .i64 q).wf = true) : Try.prog.keyLits (Try.prog.types.size + 1) 65 [.int .i64 f, .int .i64 t, .int .i64 q] = some [.int .i64 f, .int .i64 t, .int .i64 q] := by
  obtain ⟨d, hd⟩ : ∃ d, Try.prog.types.size = d + 1 := ⟨Try.prog.types.size - 1, by have : 1 ≤ Try.prog.types.size := of_decide_eq_true (by kernel_rfl); omega⟩
  rw [hd]
  exact lits65 d f t q w1 w2 w3
theorem wf_i64 (n : Int) (h : i64 n) : (Lit.int .i64 n).wf = true := by
  obtain ⟨h1, h2⟩ := h
  simp [Lit.wf, IntKind.min, IntKind.max, IntKind.signed, IntKind.bits]; omega
set_option maxRecDepth 20000 in
theorem keyOf65 (f t q : Int) (hf : i64 f) (ht : i64 t) (hq : i64 q) : keyOf Try.prog 65 (.agg #[.int .i64 f, .int .i64 t, .int .i64 q]) = some (keyR f t q) := by
  have hk : Try.prog.keyType 65 = true := by kernel_rfl
  have hfo : Value.formed Try.prog 65 (.agg #[.int .i64 f, .int .i64 t, .int .i64 q]) = true := by simp [Value.formed, Try.underlying65, cells65]
  unfold keyOf
  simp only [Try.underlying65, hk, hfo, Bool.and_self, if_true, Value.cells]
  rw [key_lits f t q (wf_i64 f hf) (wf_i64 t ht) (wf_i64 q hq)]
  rfl
theorem isKey (f t q : Int) : WideAt.IsKeyLit (keyR f t q) := trivial
theorem key_inj (f t q f' t' q' : Int) (hf : i64 f) (ht : i64 t) (hq : i64 q) (hf' : i64 f') (ht' : i64 t') (hq' : i64 q') (h : keyR f t q = keyR f' t' q') : f = f' ∧ t = t' ∧ q = q' := by
  have h1 := keyOf65 f t q hf ht hq
  have h2 := keyOf65 f' t' q' hf' ht' hq'
  rw [← h] at h2
  have := keyed65.inj h1 h2
  simpa using this
abbrev bl (b : Bool) : DataW Unit := .lit (.bool b)
/-- What the map says of which path is cut. -/
def Says (D : DataW Unit) (cut : Int → Int → Int → Bool) : Prop := IsMap D ∧ ∀ f t q, i64 f → i64 t → i64 q → D.atKey (keyR f t q) (bl false) = bl (cut f t q)
theorem Says.nil : Says (.map []) fun _ _ _ => false := ⟨isMap_empty, fun _ _ _ _ _ _ => rfl⟩
def cutF (cut : Int → Int → Int → Bool) (f t q : Int) (down : Bool) : Int → Int → Int → Bool := fun a b c => if a = f ∧ b = t ∧ c = q then down else cut a b c
theorem Says.put {D : DataW Unit} {cut : Int → Int → Int → Bool} (h : Says D cut) (f t q : Int) (hf : i64 f) (ht : i64 t) (hq : i64 q) (down : Bool) : Says (D.put (keyR f t q) (bl down)) (cutF cut f t q down) := by
  refine ⟨h.1.put _ _, fun a b c ha hb hc => ?_⟩
  unfold cutF
  by_cases e : a = f ∧ b = t ∧ c = q
  · obtain ⟨rfl, rfl, rfl⟩ := e
    rw [if_pos ⟨rfl, rfl, rfl⟩]
    exact atKey_put_same h.1 (isKey a b c) _ _
  · rw [if_neg e, atKey_put_other (fun h2 => e (key_inj _ _ _ _ _ _ ha hb hc hf ht hq h2))]
    exact h.2 a b c ha hb hc
section
variable {P : Program} {w : World} {ops : Array Oper} {rest : List Oper} {o : Oper} {a : Act} {Q : Exit → Act → World → Prop}
/-- 'm[k]' at elements that are bools: how it runs. -/
theorem run_lookupB (t : TypeId) (k e : TypeId) (K : Keyed P k) (ht : P.underlying t = some (.map k e)) (he : P.underlying e = some .bool) (hz : (zeroValue e).run P w = .ok (.bool false) w) (b n : Nat) (D : DataW Unit)
    (hown : w.ownsMap P k (plainElem P e) b n D) (key : Value) (kl : Lit) (hkey : keyOf P k key = some kl) (r : Bool) (hr : D.atKey kl (.lit (.bool false)) = .lit (.bool r)) :
    (Instr.lookup t (.map (some b)) key false).run P w = .ok (.bool r) w := by
  obtain ⟨v, ps, hrun, hv⟩ := hown.lookup K ht hz (plainElem_bool he false) hkey
  rw [hr] at hv
  have hvv : v = .bool r := by
    unfold plainElem at hv
    cases v <;> simp [he, Value.formed, DataW.trod, Value.cells] at hv
    exact congrArg _ hv.1
  subst hvv
  exact hrun
end

/-! What calls make of a list of frames. -/
def hostB (hosts h : Int) : Bool := decide (0 ≤ h ∧ h < hosts)
def pathB (p : Int) : Bool := decide (0 ≤ p ∧ p < 2)
def sendArg (hosts fh fp th tp : Int) : Bool := hostB hosts fh && hostB hosts th && pathB fp && pathB tp && !decide (fh = th)
def sendE (hosts fh fp th tp : Int) (b : List Int) : Int := if sendArg hosts fh fp th tp then (if 4096 < b.length then 4 else 0) else 1
def goes (fs : List F) (cut : Int → Int → Int → Bool) (fh fp th : Int) : Bool := decide (fs.length < 1024) && !cut fh th fp
def sendL (hosts : Int) (cut : Int → Int → Int → Bool) (fh fp th tp : Int) (b : List Int) (fs : List F) : List F := if sendE hosts fh fp th tp b = 0 ∧ goes fs cut fh fp th = true then fs ++ [⟨fh, fp, th, tp, b, false⟩] else fs
def inB (n : Nat) (k : Int) : Bool := decide (0 ≤ k ∧ k < n)
def takeE (fs : List F) (k : Int) : Int := if inB fs.length k then 0 else 8
def zeroF : F := ⟨0, 0, 0, 0, [], false⟩
def takeF (fs : List F) (k : Int) : F := if inB fs.length k then fs.getD k.toNat zeroF else zeroF
def takeL (fs : List F) (k : Int) : List F := if inB fs.length k then fs.eraseIdx k.toNat else fs
def twinE (fs : List F) (k : Int) : Int := if inB fs.length k then (if 1024 ≤ fs.length then 10 else 0) else 8
def twinL (fs : List F) (k : Int) : List F := if twinE fs k = 0 then fs ++ [takeF fs k] else fs
def lastL (fs : List F) (k : Int) : List F := if inB fs.length k then fs.eraseIdx k.toNat ++ [takeF fs k] else fs
def turnE (fs : List F) (k at_ bits : Int) : Int :=
  if inB fs.length k then (if bits = 0 ∨ inB (takeF fs k).bytes.length at_ = false then 1 else if (takeF fs k).turned then 7 else 0) else 8
def xor8 (x y : Int) : Int := bits .xor .u8 x y
def turnF (f : F) (at_ bits : Int) : F := { f with bytes := f.bytes.set at_.toNat (xor8 (f.bytes.getD at_.toNat 0) bits), turned := true }
def turnL (fs : List F) (k at_ bits : Int) : List F := if turnE fs k at_ bits = 0 then fs.set k.toNat (turnF (takeF fs k) at_ bits) else fs
def cutArg (hosts f t q : Int) : Bool := hostB hosts f && hostB hosts t && pathB q && !decide (f = t)

/-! The net in memory. -/
/-- The net S holds these frames and knows these paths; its blocks are X's. -/
structure Has (X : Nat → Prop) (w : World) (S : Nat) (hosts : Int) (fs : List F) (cut : Int → Int → Int → Bool) (n : Nat) (zs : List (F × Value)) (p : Option Addr) (m c b : Nat) (D : DataW Unit) : Prop where
  row : At w S 61 #[.int .i64 hosts, .slice p m c, .map (some b)]
  xS : X S
  xb : X b
  fst : zs.map Prod.fst = fs
  len : zs.length = m
  list : OwnF X w (.slice p m c) zs
  map : w.ownsMap Try.prog 65 (plainElem Try.prog 4) b n D
  says : Says D cut
  ok : fs.length ≤ 1024 ∧ ∀ f ∈ fs, f.ok
  few : n ≤ 1000000
  hosts : 1 ≤ hosts ∧ hosts ≤ 8
def Net (X : Nat → Prop) (w : World) (S : Nat) (hosts : Int) (fs : List F) (cut : Int → Int → Int → Bool) (n : Nat) : Prop := ∃ zs p m c b D, Has X w S hosts fs cut n zs p m c b D
section
variable {X Y : Nat → Prop} {w w' : World} {S : Nat} {hosts : Int} {fs : List F} {cut : Int → Int → Int → Bool} {n : Nat} {zs : List (F × Value)} {p : Option Addr} {m c b : Nat} {D : DataW Unit}
theorem Has.mono (h : Has X w S hosts fs cut n zs p m c b D) (hX : ∀ k, X k → Y k) : Has Y w S hosts fs cut n zs p m c b D := ⟨h.row, hX _ h.xS, hX _ h.xb, h.fst, h.len, h.list.mono hX, h.map, h.says, h.ok, h.few, h.hosts⟩
theorem Has.below (h : Has X w S hosts fs cut n zs p m c b D) (hb : Below w.heap.size w w') : Has X w' S hosts fs cut n zs p m c b D :=
  ⟨h.row.ext hb, h.xS, h.xb, h.fst, h.len, h.list.below hb, h.map.kept (grown_below none hb) (by simp), h.says, h.ok, h.few, h.hosts⟩
theorem Has.others (h : Has X w S hosts fs cut n zs p m c b D) (hb : ButX Y w w') (hxy : ∀ k, X k → ¬ Y k) : Has X w' S hosts fs cut n zs p m c b D := by
  refine ⟨?_, h.xS, h.xb, h.fst, h.len, h.list.others hb hxy, ?_, h.says, h.ok, h.few, h.hosts⟩
  · have := h.row
    unfold At at this ⊢
    rw [hb.block S h.row.lt (hxy S h.xS)]
    exact this
  · have hm := h.map
    unfold World.ownsMap at hm ⊢
    obtain ⟨es, clock, h1, r⟩ := hm
    exact ⟨es, clock, by rw [hb.block b (Array.getElem?_eq_some_iff.1 h1).1 (hxy b h.xb)]; exact h1, r⟩
theorem Net.mono (h : Net X w S hosts fs cut n) (hX : ∀ k, X k → Y k) : Net Y w S hosts fs cut n := by obtain ⟨zs, p, m, c, b, D, h⟩ := h; exact ⟨zs, p, m, c, b, D, h.mono hX⟩
theorem Net.below (h : Net X w S hosts fs cut n) (hb : Below w.heap.size w w') : Net X w' S hosts fs cut n := by obtain ⟨zs, p, m, c, b, D, h⟩ := h; exact ⟨zs, p, m, c, b, D, h.below hb⟩
theorem Net.others (h : Net X w S hosts fs cut n) (hb : ButX Y w w') (hxy : ∀ k, X k → ¬ Y k) : Net X w' S hosts fs cut n := by obtain ⟨zs, p, m, c, b, D, h⟩ := h; exact ⟨zs, p, m, c, b, D, h.others hb hxy⟩
theorem Net.lt (h : Net X w S hosts fs cut n) : S < w.heap.size ∧ X S := by obtain ⟨zs, p, m, c, b, D, h⟩ := h; exact ⟨h.row.lt, h.xS⟩
theorem Net.ok (h : Net X w S hosts fs cut n) : fs.length ≤ 1024 ∧ ∀ f ∈ fs, f.ok := by obtain ⟨zs, p, m, c, b, D, h⟩ := h; exact h.ok
theorem Has.flen (h : Has X w S hosts fs cut n zs p m c b D) : fs.length = m := by rw [← h.fst, List.length_map, h.len]
theorem Has.get (h : Has X w S hosts fs cut n zs p m c b D) (k : Nat) (hk : k < m) : ∃ z, zs[k]? = some z ∧ fs[k]? = some z.1 := by
  have hl := h.len
  refine ⟨zs[k]'(by omega), by simp, ?_⟩
  rw [← h.fst]
  simp [show k < zs.length by omega]
end
end Go.Proofs.Ytmdhpjbahenbhaa.Net
