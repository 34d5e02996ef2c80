/-
  Plain laws of turned bits: what they do to a sum does not hang on the text.
-/
import Derived.Test.YtfialncobdinnaaLaws3
namespace Go.Proofs.Ytfialncobdinnaa.Laws
open Go.RowKit Mem Crc
set_option linter.unusedVariables false

/-- A byte with bits turned. -/
def xorI (x t : Int) : Int := ((x.toNat ^^^ t.toNat : Nat) : Int)
theorem xorI_bd {x t : Int} (hx : 0 ≤ x ∧ x ≤ 255) (ht : 0 ≤ t ∧ t ≤ 255) : 0 ≤ xorI x t ∧ xorI x t ≤ 255 := by
  unfold xorI
  have : x.toNat ^^^ t.toNat < 256 := Nat.xor_lt_two_pow (n := 8) (by omega) (by omega)
  omega
theorem text_zip (xs ts : List Int) (h : xs.length = ts.length) : text (List.zipWith xorI xs ts) = text xs ^^^ text ts := by
  induction xs generalizing ts with
  | nil =>
    cases ts with
    | nil => rfl
    | cons t ts => simp at h
  | cons x xs ih =>
    cases ts with
    | nil => simp at h
    | cons t ts =>
      have := ih ts (by simpa using h)
      simp only [List.zipWith_cons_cons, text]
      rw [this, mul_xor 8]
      have e : (xorI x t).toNat = x.toNat ^^^ t.toNat := by unfold xorI; rfl
      rw [e]
      ac_rfl
/-- The first k bytes turned. -/
def mix (xs ts : List Int) (k : Nat) : List Int := List.zipWith xorI (xs.take k) (ts.take k) ++ xs.drop k
theorem mix_zero (xs ts : List Int) : mix xs ts 0 = xs := by simp [mix]
theorem mix_all (xs ts : List Int) (h : xs.length = ts.length) : mix xs ts xs.length = List.zipWith xorI xs ts := by
  unfold mix
  rw [List.take_length, List.drop_length, List.append_nil, h, List.take_length]
theorem mix_length (xs ts : List Int) (k : Nat) (h : xs.length = ts.length) : (mix xs ts k).length = xs.length := by
  unfold mix; simp; omega
theorem mix_get (xs ts : List Int) (k : Nat) (h : xs.length = ts.length) (hk : k < xs.length) : (mix xs ts k).getD k 0 = xs.getD k 0 := by
  unfold mix
  rw [List.getD_eq_getElem?_getD, List.getElem?_append_right (by simp; omega), List.getElem?_drop, List.getD_eq_getElem?_getD]
  congr 2
  simp; omega
theorem mix_set (xs ts : List Int) (k : Nat) (h : xs.length = ts.length) (hk : k < xs.length) : (mix xs ts k).set k (xorI (xs.getD k 0) (ts.getD k 0)) = mix xs ts (k + 1) := by
  have hk2 : k < ts.length := by omega
  unfold mix
  rw [List.take_add_one, List.take_add_one, List.getElem?_eq_getElem hk, List.getElem?_eq_getElem hk2]
  simp only [Option.toList]
  rw [List.zipWith_append (by simp; omega)]
  have hl : (List.zipWith xorI (xs.take k) (ts.take k)).length = k := by simp; omega
  rw [List.set_append_right _ _ (by omega), hl, Nat.sub_self, List.drop_eq_getElem_cons hk]
  simp [List.getD, hk, hk2]
  rw [List.drop_eq_getElem_cons hk, List.set_cons_zero]
theorem mix_bd (xs ts : List Int) (k : Nat) (hx : ∀ x ∈ xs, 0 ≤ x ∧ x ≤ 255) (ht : ∀ x ∈ ts, 0 ≤ x ∧ x ≤ 255) : ∀ x ∈ mix xs ts k, 0 ≤ x ∧ x ≤ 255 := by
  intro x hm
  unfold mix at hm
  rcases List.mem_append.1 hm with hm | hm
  · obtain ⟨i, hi, rfl⟩ := List.mem_iff_getElem.1 hm
    rw [List.getElem_zipWith]
    exact xorI_bd (hx _ (List.mem_of_mem_take (List.getElem_mem _))) (ht _ (List.mem_of_mem_take (List.getElem_mem _)))
  · exact hx x (List.mem_of_mem_drop hm)
theorem more_xor {xs zs : List Int} (hx : ∀ x ∈ xs, 0 ≤ x ∧ x ≤ 255) (hz : ∀ x ∈ zs, 0 ≤ x ∧ x ≤ 255) : more 0 xs ^^^ more 0 zs = reg 4294967295 xs ^^^ reg 4294967295 zs := by
  have h1 : reg 4294967295 xs < 4294967296 := reg_lt (by decide) hx
  have h2 : reg 4294967295 zs < 4294967296 := reg_lt (by decide) hz
  unfold more
  show (4294967295 - reg 4294967295 xs) ^^^ (4294967295 - reg 4294967295 zs) = _
  rw [← not_xor h1, ← not_xor h2]
  rw [show 4294967295 ^^^ reg 4294967295 xs ^^^ (4294967295 ^^^ reg 4294967295 zs) = (4294967295 ^^^ 4294967295) ^^^ (reg 4294967295 xs ^^^ reg 4294967295 zs) from by ac_rfl, Nat.xor_self, Nat.zero_xor]
/-- What turned bits do to a sum hangs on them, and on how long the text is. -/
theorem parts_eq {xs ts : List Int} (h : xs.length = ts.length) (hx : ∀ x ∈ xs, 0 ≤ x ∧ x ≤ 255) (ht : ∀ x ∈ ts, 0 ≤ x ∧ x ≤ 255) : more 0 xs ^^^ more 0 (mix xs ts xs.length) = steps (8 * ts.length) (text ts) := by
  rw [more_xor hx (mix_bd xs ts _ hx ht), mix_all xs ts h]
  have e := reg_turn (c := 4294967295) (xs := xs) (cs := List.zipWith xorI xs ts) (t := text ts) (by simp [h]) (text_zip xs ts h)
  rw [e, ← Nat.xor_assoc, Nat.xor_self, Nat.zero_xor, h]
end Go.Proofs.Ytfialncobdinnaa.Laws
