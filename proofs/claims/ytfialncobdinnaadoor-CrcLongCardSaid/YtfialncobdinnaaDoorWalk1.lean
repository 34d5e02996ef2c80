/-
  Contracts: the table of the sum, and the two Mores.
-/
import Derived.Test.YtfialncobdinnaaDoorPure
import Derived.Deep.WholeRow
namespace Go.Proofs.YtfialncobdinnaaDoor.Crc
open Go.RowKit Mem
set_option linter.unusedVariables false

/-- The table's cells, the first i of them filled. -/
def rowTo (i : Nat) : Array Value := ((List.range 16).map fun j => Value.int .u32 (if j < i then ((steps 4 j : Nat) : Int) else 0)).toArray
theorem rowTo_size (i : Nat) : (rowTo i).size = 16 := by simp [rowTo]
theorem rowTo_get (i j : Nat) (h : j < 16) : (rowTo i)[j]? = some (Value.int .u32 (if j < i then ((steps 4 j : Nat) : Int) else 0)) := by
  simp [rowTo, h]
theorem rowTo_zero : rowTo 0 = #[.int .u32 0, .int .u32 0, .int .u32 0, .int .u32 0, .int .u32 0, .int .u32 0, .int .u32 0, .int .u32 0, .int .u32 0, .int .u32 0, .int .u32 0, .int .u32 0, .int .u32 0, .int .u32 0, .int .u32 0, .int .u32 0] := rfl
theorem rowTo_one (i : Nat) : (rowTo i).all (·.oneCell') = true := by simp [rowTo, Value.oneCell']
theorem rowTo_set (i : Nat) (h : i < 16) : (rowTo i).setIfInBounds i (Value.int .u32 ((steps 4 i : Nat) : Int)) = rowTo (i + 1) := by
  apply Array.ext_getElem?
  intro j
  simp only [Array.getElem?_setIfInBounds, rowTo_size]
  by_cases hj : j < 16
  · rw [rowTo_get _ _ hj, rowTo_get _ _ hj]
    by_cases e : i = j
    · subst e; simp [h]
    · rw [if_neg e]
      by_cases h1 : j < i
      · simp [h1, show j < i + 1 from by omega]
      · simp [h1, show ¬ j < i + 1 from by omega]
  · rw [Array.getElem?_eq_none (by rw [rowTo_size]; omega), Array.getElem?_eq_none (by rw [rowTo_size]; omega)]
    simp; omega
/-- One step, as the program writes it. -/
theorem stepI {c : Nat} (h : c < 4294967296) : bits BinOp.xor IntKind.u32 ((c : Int) / 2) (bits BinOp.and IntKind.u32 2197175160 (-bits BinOp.and IntKind.u32 (c : Int) 1 % 4294967296)) = ((step c : Nat) : Int) := by
  have h1 : bits BinOp.and IntKind.u32 (c : Int) 1 = ((c % 2 : Nat) : Int) := by
    have := u32_and_nat c 1 h (by decide)
    rw [show ((1 : Nat) : Int) = 1 from rfl] at this
    rw [this, Nat.and_one_is_mod]
  rw [h1, show (c : Int) / 2 = ((c / 2 : Nat) : Int) from by omega]
  unfold step
  rcases Nat.mod_two_eq_zero_or_one c with h2 | h2
  · rw [h2]
    have h3 : bits BinOp.and IntKind.u32 2197175160 (-((0 : Nat) : Int) % 4294967296) = ((0 : Nat) : Int) := by decide
    rw [h3, u32_xor_nat _ _ (by omega) (by decide)]; simp
  · rw [h2]
    have h3 : bits BinOp.and IntKind.u32 2197175160 (-((1 : Nat) : Int) % 4294967296) = ((poly : Nat) : Int) := by decide
    rw [h3, u32_xor_nat _ _ (by omega) (by decide)]; simp

theorem steps_succ (m c : Nat) : steps (m + 1) c = step (steps m c) := steps_add m 1 c

set_option maxRecDepth 100000 in
set_option maxHeartbeats 1600000 in
theorem table (w : World) : Calls Tryd.prog 14 #[] w fun e w' => e = .returned (.agg (rowTo 16)) ∧ Below w.heap.size w w' := by
  go_enter Tryd.func14, Tryd.ntmps14
  go_wp2_with fail
  go_loopw [3] (fun i wr => ∃ k : Nat, k ≤ 16 ∧ i = .int .i64 k ∧ wr.heap[w.heap.size]? = some (.cells (rowTo k) 38 (0, 0)) ∧ Below w.heap.size w wr) (fun i _ => 16 - (intOf i).toNat)
  case atStart =>
    exact ⟨0, by omega, rfl, by rw [rowTo_zero]; exact Array.getElem?_push_size, (Below.refl _ _).alloc (Nat.le_refl _) _⟩
  case round =>
    obtain ⟨k, hk, rfl, hg, hb⟩ := hrel
    by_cases hlt : k < 16
    · go_wp2_with fail
      go_loopw [2, 8] (fun c j w1 => ∃ m : Nat, m ≤ 4 ∧ j = .int .i64 m ∧ c = .int .u32 (steps m k : Nat) ∧ w1 = wr) (fun _ j _ => 4 - (intOf j).toNat)
      case atStart => exact ⟨0, by omega, rfl, rfl, rfl⟩
      case round =>
        obtain ⟨m, hm, rfl, rfl, rfl⟩ := hrel
        have hl := steps_lt (n := m) (show k < 4294967296 by omega)
        by_cases hlt2 : m < 4
        · go_wp2
          exact ⟨⟨m + 1, by omega, by go_num, by rw [stepI hl, ← steps_succ], trivial⟩, by simp [intOf]; omega⟩
        · obtain rfl : m = 4 := by omega
          have hc : wr.cell? ⟨w.heap.size, k, none⟩ = some (.int .u32 0) := by
            rw [cell_of_row wr w.heap.size k _ 38 (0, 0) hg, rowTo_get _ _ hlt]; simp
          have hz : wr.frozen? ⟨w.heap.size, k, none⟩ = false := by simp [World.frozen?, hg]
          have hg2 : (wr.setCell ⟨w.heap.size, k, none⟩ (.int .u32 (steps 4 k : Nat))).heap[w.heap.size]? = some (.cells (rowTo (k + 1)) 38 (0, 0)) := by
            rw [setCell_eq_setRow _ _ _ _ _ _ _ hg, setRow_heap _ _ _ _ _ _ hg]; exact congrArg (fun r => some (Obj.cells r 38 (0, 0))) (rowTo_set k hlt)
          have hb2 := hb.setCell (p := ⟨w.heap.size, k, none⟩) (Nat.le_refl _) (.int .u32 (steps 4 k : Nat))
          clear hg hb
          go_wp2
          exact ⟨⟨k + 1, by omega, by go_num, hg2, hb2⟩, by simp [intOf]; omega⟩
    · obtain rfl : k = 16 := by omega
      go_wp2_with (first | (refine wpList_load_row rfl 38 _ rfl w.heap.size rfl 38 _ _ _ hg Tryd.underlying38 rfl (by kernel_rfl) ?_) | (refine wpList_store_row rfl 38 _ _ rfl w.heap.size (rowTo 16) rfl rfl 38 _ hg (by kernel_rfl) rfl (rowTo_one 16) ?_))
      rw [setRow_self wr w.heap.size _ 38 _ hg]
      exact ⟨rfl, .agg (rowTo 16), results_cell_row (fn := Tryd.f14) (p := 0) (ty := 38) (by kernel_rfl) _ _ w.heap.size 38 (rowTo 16) (0, 0) _ (by simp [Act.put]) hg Tryd.underlying38 rfl (by kernel_rfl), rfl, hb⟩

theorem xor32 {a b : Nat} (ha : a < 4294967296) (hb : b < 4294967296) : bits BinOp.xor IntKind.u32 (a : Int) (b : Int) = ((a ^^^ b : Nat) : Int) := u32_xor_nat a b ha hb
theorem and15 {a : Nat} (ha : a < 4294967296) : bits BinOp.and IntKind.u32 (a : Int) 15 = ((a % 16 : Nat) : Int) := by
  have := u32_and_nat a 15 ha (by decide)
  rw [show ((15 : Nat) : Int) = 15 from rfl] at this
  rw [this, show 15 = 2 ^ 4 - 1 from rfl, Nat.and_two_pow_sub_one_eq_mod]
theorem not32 {a : Nat} (ha : a < 4294967296) : bits BinOp.xor IntKind.u32 IntKind.u32.max (a : Int) = ((4294967295 - a : Nat) : Int) := by
  have := u32_xor_nat 4294967295 a (by decide) ha
  rw [not_xor ha] at this
  exact this

/-- What crc.More answers. -/
def more (sum : Nat) (xs : List Int) : Nat := 4294967295 - reg (4294967295 - sum) xs

set_option maxRecDepth 100000 in
set_option maxHeartbeats 3200000 in
theorem moreP (n : Nat) (v : Value) (xs : List Int) (w : World) (hn : n < 4294967296) (hr : Reads .u8 w v xs) (hx : ∀ x ∈ xs, 0 ≤ x ∧ x ≤ 255) (hb : xs.length ≤ 9223372036854775807) :
    Calls Tryd.prog 12 #[.int .u32 n, v] w fun e w' => e = .returned (.int .u32 (more n xs : Nat)) ∧ Below w.heap.size w w' := by
  have hr' := hr
  obtain ⟨p, c, rfl, h1, h2, h3, h4⟩ := hr
  clear h4 h3
  go_enter Tryd.func12, Tryd.ntmps12
  go_wp2_with fail
  refine (table w).mono ?_
  rintro e w1 ⟨rfl, b1⟩
  have h0 : (w1.alloc (.cells (rowTo 0) 38)).heap[w1.heap.size]? = some (.cells (rowTo 0) 38 (0, 0)) := Array.getElem?_push_size
  have ht : (w1.alloc (.cells (rowTo 16) 38)).heap[w1.heap.size]? = some (.cells (rowTo 16) 38 (0, 0)) := Array.getElem?_push_size
  have b2 := b1.alloc b1.size (.cells (rowTo 16) 38)
  go_wp2_with (refine wpList_store_row rfl 38 _ _ rfl w1.heap.size (rowTo 16) rfl rfl 38 (rowTo 0) h0 (by kernel_rfl) rfl (rowTo_one 16) ?_)
  go_loopw [6, 14] (fun c i wr => ∃ k d : Nat, k ≤ xs.length ∧ i = .int .i64 k ∧ d < 4294967296 ∧ c = .int .u32 d ∧ reg d (xs.drop k) = reg (4294967295 - n) xs ∧ wr.heap[w1.heap.size]? = some (.cells (rowTo 16) 38 (0, 0)) ∧ Below w.heap.size w wr) (fun _ i _ => xs.length - (intOf i).toNat)
  case atStart =>
    rw [← rowTo_zero, World.setRow_alloc_new]
    exact ⟨0, 4294967295 - n, by omega, rfl, by omega, by rw [not32 hn], by simp, ht, b2⟩
  case round =>
    obtain ⟨k, d, hk, rfl, hd, rfl, hreg, hg, hb⟩ := hrel
    clear h0 ht b2
    by_cases hlt : k < xs.length
    · have hr2 := hr'.below hb
      obtain ⟨p1, c1, e1, _, _, _, hc⟩ := hr2
      cases e1
      obtain ⟨b, off, rfl, hbl, hcc⟩ := hc (by omega)
      obtain ⟨x, hxk⟩ : ∃ x, (xs.getD k 0).toNat = x := ⟨_, rfl⟩
      have hx0 := hx (xs.getD k 0) (by rw [List.getD_eq_getElem?_getD, List.getElem?_eq_getElem hlt]; simp)
      have hck : wr.cell? ⟨b, off + k, none⟩ = some (.int .u8 x) := by rw [hcc k hlt, ← hxk, Int.toNat_of_nonneg hx0.1]
      have hxl : x < 256 := by omega
      have hstep : Hid (reg (steps 8 (d ^^^ x)) (xs.drop (k + 1)) = reg (4294967295 - n) xs) := by unfold Hid; rw [← hreg, reg_drop _ _ _ hlt, hxk]
      obtain ⟨e, he⟩ : ∃ e, d ^^^ x = e := ⟨_, rfl⟩
      have hel : e < 4294967296 := by rw [← he]; exact xor_lt hd (by omega)
      have q1 : bits BinOp.xor IntKind.u32 (d : Int) (x : Int) = (e : Int) := by rw [xor32 hd (by omega), he]
      rw [he] at hstep
      obtain ⟨q, hq⟩ : ∃ q, e % 16 = q := ⟨_, rfl⟩
      have hql : q < 16 := by omega
      have q2 : bits BinOp.and IntKind.u32 (e : Int) 15 = (q : Int) := by rw [and15 hel, hq]
      have t1 : wr.cell? ⟨w1.heap.size, q, none⟩ = some (.int .u32 (steps 4 q : Nat)) := by
        rw [cell_of_row wr w1.heap.size q _ 38 (0, 0) hg, rowTo_get _ _ hql, if_pos hql]
      have hf := four e
      rw [hq] at hf
      obtain ⟨f, hf'⟩ : ∃ f, steps 4 e = f := ⟨_, rfl⟩
      rw [hf'] at hf
      have hfl : f < 4294967296 := by rw [← hf']; exact steps_lt hel
      have q3 : bits BinOp.xor IntKind.u32 ((e : Int) / 16) ((steps 4 q : Nat) : Int) = (f : Int) := by
        rw [show (e : Int) / 16 = ((e / 16 : Nat) : Int) from by omega, xor32 (by omega) (steps_lt (by omega)), hf]
      obtain ⟨r, hr⟩ : ∃ r, f % 16 = r := ⟨_, rfl⟩
      have hrl : r < 16 := by omega
      have q4 : bits BinOp.and IntKind.u32 (f : Int) 15 = (r : Int) := by rw [and15 hfl, hr]
      have t2 : wr.cell? ⟨w1.heap.size, r, none⟩ = some (.int .u32 (steps 4 r : Nat)) := by
        rw [cell_of_row wr w1.heap.size r _ 38 (0, 0) hg, rowTo_get _ _ hrl, if_pos hrl]
      have hg2 := four f
      rw [hr, ← hf', ← steps_add 4 4 e] at hg2
      obtain ⟨u, hu⟩ : ∃ u, steps 8 e = u := ⟨_, rfl⟩
      rw [hf', hu] at hg2
      rw [hu] at hstep
      have hul : u < 4294967296 := by rw [← hu]; exact steps_lt hel
      have q5 : bits BinOp.xor IntKind.u32 ((f : Int) / 16) ((steps 4 r : Nat) : Int) = (u : Int) := by
        rw [show (f : Int) / 16 = ((f / 16 : Nat) : Int) from by omega, xor32 (by omega) (steps_lt (by omega)), hg2]
      have HG : Hid (wr.heap[w1.heap.size]? = some (.cells (rowTo 16) 38 (0, 0))) := hg
      clear hg hc hcc hreg hxk he hq hf hf' hr hg2 hu hx
      go_wp2
      exact ⟨⟨k + 1, u, by omega, by go_num, hul, rfl, hstep.out, HG.out, hb⟩, by simp [intOf]; omega⟩
    · obtain rfl : k = xs.length := by omega
      rw [List.drop_length, reg_nil] at hreg
      have hn2 := not32 hd
      have hm : more n xs = 4294967295 - d := by unfold more; rw [← hreg]
      clear hg hreg
      go_wp2
      go_ret
      exact ⟨by rw [hm]; rfl, hb⟩
end Go.Proofs.YtfialncobdinnaaDoor.Crc
