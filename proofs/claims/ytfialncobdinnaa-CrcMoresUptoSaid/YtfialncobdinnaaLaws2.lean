/-
  The walk of the law CrcMores: it returns true, and writes nothing that was there.
-/
import Derived.Test.YtfialncobdinnaaLaws1
namespace Go.Proofs.Ytfialncobdinnaa.Laws
open Go.RowKit Mem Crc
set_option linter.unusedVariables false

theorem mores (n : Int) (p1 p2 : Option Addr) (l1 c1 l2 c2 : Nat) (z1 z2 : List Int) (w : World) (hn : 0 ≤ n ∧ n ≤ 4294967295) (r1 : Frame.IsRow .u8 w p1 l1 c1 z1) (r2 : Frame.IsRow .u8 w p2 l2 c2 z2) (h12 : l1 + l2 ≤ 140737488351232) :
    Calls Try.prog 4 #[.int .u32 n, .slice p1 l1 c1, .slice p2 l2 c2] w fun e w' => e = .returned (.bool true) ∧ Below w.heap.size w w' := by
  obtain ⟨i0, hi, hz0, hz1, hz2⟩ := info_parts info5
  obtain ⟨n, rfl⟩ := Int.eq_ofNat_of_zero_le hn.1
  have hn : n < 4294967296 := by omega
  obtain ⟨r1, hl1, hwf1⟩ := Mem.isRow_reads r1
  obtain ⟨r2, hl2, hwf2⟩ := Mem.isRow_reads r2
  obtain ⟨xs, hx⟩ : ∃ xs, z1.take l1 = xs := ⟨_, rfl⟩
  obtain ⟨ys, hy⟩ : ∃ ys, z2.take l2 = ys := ⟨_, rfl⟩
  rw [hx] at r1 hl1 hwf1
  rw [hy] at r2 hl2 hwf2
  subst hl1 hl2
  have hwf1 : ∀ x ∈ xs, 0 ≤ x ∧ x ≤ 255 := fun x hx => bounds_u8 (hwf1 x hx)
  have hwf2 : ∀ x ∈ ys, 0 ≤ x ∧ x ≤ 255 := fun x hx => bounds_u8 (hwf2 x hx)
  have hwf12 : ∀ x ∈ xs ++ ys, 0 ≤ x ∧ x ≤ 255 := fun x hx => (List.mem_append.1 hx).elim (hwf1 x) (hwf2 x)
  clear hx hy
  have bn := (Below.refl w.heap.size w).alloc (Nat.le_refl _) (.cells #[] 5)
  have rn := Row.alloc_nil .u8 5 w (Nat.le_refl w.heap.size)
  have rx := r1.below bn
  go_enter Try.func4, Try.ntmps4
  go_wp2_with (at_builtin; refine wpl_append rfl _ _ 22 rfl .u8 w.heap.size 5 1 i0 (.int .u8 0) Try.underlying22 hi hz0 hz1 hz2 rfl _ _ _ _ rfl rfl rn rx ?_ ?_ ?_ ?_)
  · unfold maxLen; simp; omega
  · simp; omega
  · exact bn.size
  · intro v6 w6 o6 g6
    have b6 : Below w.heap.size w w6 := bn.grown g6 bn.size (fun q hq => (rn.lt q hq).1)
    have ry := r2.below b6
    clear g6 rn rx bn
    go_wp2_with (at_builtin; refine wpl_append rfl _ _ 22 rfl .u8 w.heap.size 5 1 i0 (.int .u8 0) Try.underlying22 hi hz0 hz1 hz2 rfl _ _ _ _ rfl rfl o6 ry ?_ ?_ ?_ ?_)
    · unfold maxLen; omega
    · omega
    · exact b6.size
    · intro v7 w7 o7 g7
      have b7 : Below w.heap.size w w7 := b6.grown g7 b6.size (fun q hq => (o6.lt q hq).1)
      have r7 := o7.reads
      clear g7 o6 o7 b6 ry
      go_wp2_with fail
      refine (answers _).mono ?_
      rintro e w1 ⟨rfl, b1⟩
      have c1 := Frame.ext b7 b1
      replace r7 := r7.below b1
      go_wp2_with fail
      refine (moreP n _ _ _ hn (r1.below c1) hwf1 (by omega)).mono ?_
      rintro e w2 ⟨rfl, b2⟩
      replace c1 := Frame.ext c1 b2
      replace r7 := r7.below b2
      clear b1 b2
      go_wp2_with fail
      refine (moreR n _ _ _ hn (r1.below c1) hwf1 (by omega)).mono ?_
      rintro e w3 ⟨rfl, rfl⟩
      go_wp2_with fail
      refine (moreP n _ _ _ hn (r1.below c1) hwf1 (by omega)).mono ?_
      rintro e w4 ⟨rfl, b4⟩
      replace c1 := Frame.ext c1 b4
      replace r7 := r7.below b4
      clear b4
      go_wp2_with fail
      refine (moreP _ _ _ _ more_lt (r2.below c1) hwf2 (by omega)).mono ?_
      rintro e w5 ⟨rfl, b5⟩
      replace c1 := Frame.ext c1 b5
      replace r7 := r7.below b5
      clear b5
      go_wp2_with fail
      refine (moreP n _ _ _ hn r7 hwf12 (by rw [List.length_append]; omega)).mono ?_
      rintro e w8 ⟨rfl, b8⟩
      replace c1 := Frame.ext c1 b8
      have hm := more_append n xs ys hn hwf1
      clear b8 r7
      go_wp2
      go_ret
      exact ⟨rfl, c1⟩
end Go.Proofs.Ytfialncobdinnaa.Laws
