/-
  A PIECE OF WHAT READS AS NUMBERS: the operations x[i:j], x[i:], x[:j], each in one way (the piece's value is not looked into). No program is looked into here.
-/
import Derived.Test.YtjfponhdlfhmbaaMem
namespace Go.Proofs.Ytjfponhdlfhmbaa.Mem
open Go.RowKit
set_option linter.unusedVariables false

theorem Reads.sliced {k : IntKind} {w : World} {p : Option Addr} {n c : Nat} {xs : List Int} (hr : Reads k w (.slice p n c) xs) (l h : Nat) (h1 : l ≤ h) (h2 : h ≤ xs.length) :
    Reads k w (sliced p l h c 1) ((xs.drop l).take (h - l)) := by
  have hl : ((xs.drop l).take (h - l)).length = h - l := by simp; omega
  unfold Go.sliced
  rw [Nat.mul_one]
  by_cases e : c = l
  · rw [if_pos e]
    obtain ⟨p', c', ev, k1, k2, k3, _⟩ := hr
    cases ev
    have h0 : h - l = 0 := by omega
    rw [h0, List.take_zero, show c - l = 0 by omega]
    exact Reads.sub0
  · rw [if_neg e]
    exact hr.sub l (h - l) (by omega)

section
variable {P : Program} {w : World} {ops : Array Oper} {rest : List Oper} {o : Oper} {a : Act} {Q : Exit → Act → World → Prop}
theorem wpl_sub (hgd : o.guard = none) (t : TypeId) (x lo hi : Operand) (ho : o.op = .slice t x (some lo) (some hi) none) (k : IntKind) (i : TypeInfo)
    (ht : P.underlying t = some (.slice (P.elem t))) (hii : P.info? (P.elem t) = some i) (hsize : i.size = 1)
    (v : Value) (xs : List Int) (l h : Int) (hx : a.eval x = v) (hl : a.eval lo = .int .i64 l) (hh : a.eval hi = .int .i64 h) (hr : Reads k w v xs) (h0 : 0 ≤ l) (h1 : l ≤ h) (h2 : h ≤ xs.length)
    (K : ∀ v', Reads k w v' ((xs.drop l.toNat).take (h - l).toNat) → wpList P ops Q rest (a.put o.dst v') w) : wpList P ops Q (o :: rest) a w := by
  have hr' := hr
  obtain ⟨p, c, rfl, k1, k2, k3, k4⟩ := hr
  have hs : (sizeOf (P.elem t)).run P w = .ok 1 w := by simp [sizeOf, typeInfo, hii, hsize]
  refine wpList_plain hgd fun K' hK => ?_
  unfold Oper.wp execOp
  simp only [ho, hx, hl, hh, Option.map_some, Option.map_none, run_sliceAt_slice w t _ _ _ _ ht, run_slice_lh w t p xs.length c ht .i64 .i64 l h h0 h1 (by omega), hs, Sem.run_bind, Sem.run_pure, Result.andThen_ok]
  have := hr'.sliced l.toNat h.toNat (by omega) (by omega)
  refine hK _ _ (K _ ?_)
  rw [show (h - l).toNat = h.toNat - l.toNat by omega]
  exact this
theorem wpl_sub_l (hgd : o.guard = none) (t : TypeId) (x lo : Operand) (ho : o.op = .slice t x (some lo) none none) (k : IntKind) (i : TypeInfo)
    (ht : P.underlying t = some (.slice (P.elem t))) (hii : P.info? (P.elem t) = some i) (hsize : i.size = 1)
    (v : Value) (xs : List Int) (l : Int) (hx : a.eval x = v) (hl : a.eval lo = .int .i64 l) (hr : Reads k w v xs) (h0 : 0 ≤ l) (h1 : l ≤ xs.length)
    (K : ∀ v', Reads k w v' (xs.drop l.toNat) → wpList P ops Q rest (a.put o.dst v') w) : wpList P ops Q (o :: rest) a w := by
  have hr' := hr
  obtain ⟨p, c, rfl, k1, k2, k3, k4⟩ := hr
  have hs : (sizeOf (P.elem t)).run P w = .ok 1 w := by simp [sizeOf, typeInfo, hii, hsize]
  refine wpList_plain hgd fun K' hK => ?_
  unfold Oper.wp execOp
  simp only [ho, hx, hl, Option.map_some, Option.map_none, run_sliceAt_slice w t _ _ _ _ ht, run_slice_l w t p xs.length c ht .i64 l h0 h1, hs, Sem.run_bind, Sem.run_pure, Result.andThen_ok]
  have := hr'.sliced l.toNat xs.length (by omega) (by omega)
  refine hK _ _ (K _ ?_)
  rwa [List.take_of_length_le (by simp)] at this
theorem wpl_sub_h (hgd : o.guard = none) (t : TypeId) (x hi : Operand) (ho : o.op = .slice t x none (some hi) none) (k : IntKind) (i : TypeInfo)
    (ht : P.underlying t = some (.slice (P.elem t))) (hii : P.info? (P.elem t) = some i) (hsize : i.size = 1)
    (v : Value) (xs : List Int) (h : Int) (hx : a.eval x = v) (hh : a.eval hi = .int .i64 h) (hr : Reads k w v xs) (h0 : 0 ≤ h) (h1 : h ≤ xs.length)
    (K : ∀ v', Reads k w v' (xs.take h.toNat) → wpList P ops Q rest (a.put o.dst v') w) : wpList P ops Q (o :: rest) a w := by
  have hr' := hr
  obtain ⟨p, c, rfl, k1, k2, k3, k4⟩ := hr
  have hs : (sizeOf (P.elem t)).run P w = .ok 1 w := by simp [sizeOf, typeInfo, hii, hsize]
  refine wpList_plain hgd fun K' hK => ?_
  unfold Oper.wp execOp
  simp only [ho, hx, hh, Option.map_some, Option.map_none, run_sliceAt_slice w t _ _ _ _ ht, run_slice_h w t p xs.length c ht .i64 h h0 (by omega), hs, Sem.run_bind, Sem.run_pure, Result.andThen_ok]
  have := hr'.sliced 0 h.toNat (by omega) (by omega)
  refine hK _ _ (K _ ?_)
  simpa using this
end
end Go.Proofs.Ytjfponhdlfhmbaa.Mem
