/-
  The walk of the law WireKeeps: it returns true, and writes nothing that was there.
-/
import Derived.Test.YtnemjmkhbnpfmaaLaws1
import Derived.Test.YtnemjmkhbnpfmaaWire3
import Derived.Test.YtnemjmkhbnpfmaaWire4
import Derived.Test.YtnemjmkhbnpfmaaPrps
namespace Go.Proofs.Ytnemjmkhbnpfmaa.Laws
open Go.RowKit Mem Wire
set_option linter.unusedVariables false
attribute [local simp] Mono.DepFacts Mono.want Mono.isV Mono.Fin readsP Act.eval Act.put Region.binds

theorem partE_ok {len at_ n : Int} (h1 : 0 ≤ at_) (h2 : 0 ≤ n) (h3 : at_ + n ≤ len) : partE len at_ n = 0 := by
  unfold partE; rw [if_neg (by omega), if_neg (by omega)]

/-- What a loop that fills a row of the call's own keeps: the row's length, another row, all that was there before. -/
structure Fills (B1 B2 B3 : Nat) (x y z : Value) (n ny nz : Nat) (w1 wr : World) : Prop where
  row : ∃ xs : List Int, xs.length = n ∧ Row .u8 5 B1 wr x xs
  rowy : ∃ ys : List Int, ys.length = ny ∧ Row .u8 5 B2 wr y ys
  rowz : ∃ zs : List Int, zs.length = nz ∧ Row .u8 5 B3 wr z zs
  below : Below w1.heap.size w1 wr

theorem Fills.swap {B1 B2 B3 nx ny nz : Nat} {x y z : Value} {w1 wr : World} (h : Fills B1 B2 B3 x y z nx ny nz w1 wr) : Fills B2 B1 B3 y x z ny nx nz w1 wr := ⟨h.rowy, h.row, h.rowz, h.below⟩
theorem Fills.swap2 {B1 B2 B3 nx ny nz : Nat} {x y z : Value} {w1 wr : World} (h : Fills B1 B2 B3 x y z nx ny nz w1 wr) : Fills B3 B2 B1 z y x nz ny nx w1 wr := ⟨h.rowz, h.rowy, h.row, h.below⟩
/-- One store of such a loop. -/
theorem Fills.store {B1 B2 B3 nx ny nz g c : Nat} {y z : Value} {w1 wr : World} (h : Fills B1 B2 B3 (.slice (some ⟨g, 0, none⟩) nx c) y z nx ny nz w1 wr) (hy : y.ownBlock ≠ some g) (hz : z.ownBlock ≠ some g) (hg : w1.heap.size ≤ g) (j : Nat) (v : Int) :
    Fills B1 B2 B3 (.slice (some ⟨g, 0, none⟩) nx c) y z nx ny nz w1 (wr.setCell ⟨g, j, none⟩ (.int .u8 v)) := by
  obtain ⟨⟨xs, rfl, hx⟩, ⟨ys, rfl, hy'⟩, ⟨zs, rfl, hz'⟩, hb⟩ := h
  exact ⟨⟨xs.set j v, by simp, by simpa using Row.store hx j v⟩, ⟨ys, rfl, Row.store_other hx hy' hy j v⟩, ⟨zs, rfl, Row.store_other hx hz' hz j v⟩, hb.setCell hg _⟩
theorem Fills.cell {B1 B2 B3 nx ny nz g c : Nat} {y z : Value} {w1 wr : World} (h : Fills B1 B2 B3 (.slice (some ⟨g, 0, none⟩) nx c) y z nx ny nz w1 wr) (j : Nat) (hj : j < nx) :
    ∃ u, wr.cell? ⟨g, j, none⟩ = some (.int .u8 u) ∧ wr.frozen? ⟨g, j, none⟩ = false := by
  obtain ⟨⟨xs, rfl, hx⟩, _, _, _⟩ := h
  exact ⟨_, Row.cell hx j hj⟩
theorem Fills.form {B1 B2 B3 nx ny nz c : Nat} {p : Option Addr} {y z : Value} {w1 wr : World} (h : Fills B1 B2 B3 (.slice p nx c) y z nx ny nz w1 wr) (h0 : 0 < nx) : ∃ g, p = some ⟨g, 0, none⟩ := by
  obtain ⟨⟨xs, rfl, hx⟩, _, _, _⟩ := h
  obtain ⟨g, e, _⟩ := Row.form hx h0
  exact ⟨g, e⟩

set_option maxRecDepth 100000 in
set_option maxHeartbeats 3200000 in
theorem keeps (p : Option Addr) (l c : Nat) (z : List Int) (n size : Int) (w : World) (hr : Frame.IsRow .u8 w p l c z) (hl : l ≤ 140737488351232) (hn : 0 ≤ n ∧ n ≤ 18446744073709551615) (hs : -9223372036854775808 ≤ size ∧ size ≤ 9223372036854775807) :
    Calls Try.prog 6 #[.slice p l c, .int .u64 n, .int .i64 size] w fun e w' => e = .returned (.bool true) ∧ Below w.heap.size w w' := by
  obtain ⟨i0, hi, hz0, hz1, hz2⟩ := info_parts info5
  obtain ⟨hr, hlen, hwf⟩ := Mem.isRow_reads hr
  obtain ⟨xs, hx⟩ : ∃ xs, z.take l = xs := ⟨_, rfl⟩
  rw [hx] at hr hlen hwf
  subst hlen
  clear hx hwf
  go_enter Try.func6, Try.ntmps6
  go_wp2_with fail
  refine (own _ _ _ hr (by omega)).mono ?_
  rintro e w1 ⟨v1, rfl, o1, b1⟩
  go_wp2_with (at_builtin; refine wpl_append rfl _ _ 22 rfl .u8 w.heap.size 5 1 i0 (.int .u8 0) Try.underlying22 hi hz0 hz1 hz2 rfl _ _ _ _ rfl rfl (o1.alloc _) (Reads.one .u8 w1 _ _) ?_ ?_ ?_ ?_)
  · unfold maxLen; simp; omega
  · simp; omega
  · have := b1.size; simp; omega
  · intro v2 w2 o2 hg
    have b2 : Below w.heap.size w w2 := (b1.alloc b1.size _).grown hg (by have := b1.size; simp; omega) (fun q hq => (o1.lt q hq).1)
    clear hg o1 b1
    have hl2 : (xs ++ [71]).length = xs.length + 1 := by simp
    obtain ⟨p2, c2, rfl, q1, q2, q3, hc⟩ := o2.reads
    rw [hl2] at q1
    have R2 := o2.reads
    have hc2 := hc (by rw [hl2]; omega)
    clear hc
    obtain ⟨g2, off2, rfl, hlt2, hcell⟩ := hc2
    have h71 : w2.cell? ⟨g2, off2 + xs.length, none⟩ = some (.int .u8 71) := by have := hcell xs.length (by rw [hl2]; omega); simpa using this
    have hpre := Reads.pre R2 xs.length (by rw [hl2]; omega)
    rw [List.take_left] at hpre
    have hr2 := hr.below b2
    clear hcell R2 q3
    go_wp2_with fail
    refine (put _ _ _ _ _ hn hpre (by omega)).mono ?_
    rintro e w3 ⟨v3, rfl, o3, b3⟩
    obtain ⟨p3, c3, rfl, k3, m3, _, _⟩ := o3.reads
    go_wp2_with fail
    refine (padded _ _ _ (hpre.below b3) (by omega)).mono ?_
    rintro e w4 ⟨v4, rfl, o4, b4⟩
    obtain ⟨p4, c4, rfl, k4, m4, _, _⟩ := o4.reads
    go_wp2_with fail
    refine (Wire.part _ _ _ _ _ ((hpre.below b3).below b4) (by omega) (by omega) (by omega)).mono ?_
    rintro e w5 ⟨v5, rfl, o5, b5⟩
    obtain ⟨p5, c5, rfl, k5, m5, _, _⟩ := o5.reads
    have e1 := partE_ok (len := xs.length) (at_ := 0) (n := xs.length) (by omega) (by omega) (by omega)
    have l3 := o3.lt
    have l4 := o4.lt
    have l5 := o5.lt
    obtain ⟨N3, hN3⟩ : ∃ N, (putted xs n size).length = N := ⟨_, rfl⟩
    obtain ⟨N4, hN4⟩ : ∃ N, (paddedOf xs).length = N := ⟨_, rfl⟩
    obtain ⟨N5, hN5⟩ : ∃ N, (partL xs 0 xs.length).length = N := ⟨_, rfl⟩
    have F : Fills w2.heap.size w3.heap.size w4.heap.size (.slice p3 N3 c3) (.slice p4 N4 c4) (.slice p5 N5 c5) N3 N4 N5 w2 w5 := by
      rw [← hN3, ← hN4, ← hN5]
      exact ⟨⟨_, rfl, (o3.below b4).below b5⟩, ⟨_, rfl, o4.below b5⟩, ⟨_, rfl, o5⟩, Frame.ext (Frame.ext b3 b4) b5⟩
    rw [hN3] at k3 l3
    rw [hN4] at k4 l4
    rw [hN5] at k5 l5
    have z3 : N3 ≤ 9223372036854775807 := by unfold maxLen at m3; omega
    have z4 : N4 ≤ 9223372036854775807 := by unfold maxLen at m4; omega
    have z5 : N5 ≤ 9223372036854775807 := by unfold maxLen at m5; omega
    have n34 : ∀ g, (Value.slice p3 N3 c3).ownBlock = some g → (Value.slice p4 N4 c4).ownBlock ≠ some g := fun g h h' => by have h1 := l3 g h; have h2 := l4 g h'; omega
    have n35 : ∀ g, (Value.slice p3 N3 c3).ownBlock = some g → (Value.slice p5 N5 c5).ownBlock ≠ some g := fun g h h' => by have h1 := l3 g h; have h2 := l5 g h'; have := b4.size; omega
    have n45 : ∀ g, (Value.slice p4 N4 c4).ownBlock = some g → (Value.slice p5 N5 c5).ownBlock ≠ some g := fun g h h' => by have h1 := l4 g h; have h2 := l5 g h'; omega
    have g3 : ∀ g, (Value.slice p3 N3 c3).ownBlock = some g → w2.heap.size ≤ g := fun g h => (l3 g h).1
    have g4 : ∀ g, (Value.slice p4 N4 c4).ownBlock = some g → w2.heap.size ≤ g := fun g h => Nat.le_trans b3.size (l4 g h).1
    have g5 : ∀ g, (Value.slice p5 N5 c5).ownBlock = some g → w2.heap.size ≤ g := fun g h => Nat.le_trans (Nat.le_trans b3.size b4.size) (l5 g h).1
    clear l3 l4 l5 o2 o3 o4 o5 k3 k4 k5 m3 m4 m5 b3 b4 b5 hi hz0 hz1 hz2
    go_wp2_with fail
    go_loopw [13] (fun i wr => ∃ k : Nat, k ≤ N3 ∧ i = .int .i64 k ∧ Fills w2.heap.size w3.heap.size w4.heap.size (.slice p3 N3 c3) (.slice p4 N4 c4) (.slice p5 N5 c5) N3 N4 N5 w2 wr) (fun i _ => N3 - (intOf i).toNat)
    case atStart => exact ⟨0, by omega, rfl, F⟩
    case round =>
      clear F
      obtain ⟨k, hk, rfl, F⟩ := hrel
      by_cases hlt : k < N3
      · obtain ⟨g, rfl⟩ := F.form (by omega)
        obtain ⟨u, hu1, hu2⟩ := F.cell k hlt
        have FN := Fills.store F (n34 g rfl) (n35 g rfl) (g3 g rfl) k 99
        clear n34 n35 n45 g3 g4 g5 F
        go_wp2
        exact ⟨⟨k + 1, by omega, by go_num, FN⟩, by simp [intOf]; omega⟩
      · go_wp2_with fail
        go_loopw [14] (fun i wr => ∃ k : Nat, k ≤ N4 ∧ i = .int .i64 k ∧ Fills w2.heap.size w3.heap.size w4.heap.size (.slice p3 N3 c3) (.slice p4 N4 c4) (.slice p5 N5 c5) N3 N4 N5 w2 wr) (fun i _ => N4 - (intOf i).toNat)
        case atStart => exact ⟨0, by omega, rfl, F⟩
        case round =>
          clear F
          obtain ⟨k, hk, rfl, F⟩ := hrel
          by_cases hlt : k < N4
          · obtain ⟨g, rfl⟩ := Fills.form (F.swap) (by omega)
            obtain ⟨u, hu1, hu2⟩ := Fills.cell (F.swap) k hlt
            have FN := (Fills.store (F.swap) (fun h => n34 g h rfl) (n45 g rfl) (g4 g rfl) k 98).swap
            clear n34 n35 n45 g3 g4 g5 F
            go_wp2
            exact ⟨⟨k + 1, by omega, by go_num, FN⟩, by simp [intOf]; omega⟩
          · go_wp2_with fail
            go_loopw [15] (fun i wr => ∃ k : Nat, k ≤ N5 ∧ i = .int .i64 k ∧ Fills w2.heap.size w3.heap.size w4.heap.size (.slice p3 N3 c3) (.slice p4 N4 c4) (.slice p5 N5 c5) N3 N4 N5 w2 wr) (fun i _ => N5 - (intOf i).toNat)
            case atStart => exact ⟨0, by omega, rfl, F⟩
            case round =>
              clear F
              obtain ⟨k, hk, rfl, F⟩ := hrel
              by_cases hlt : k < N5
              · obtain ⟨g, rfl⟩ := Fills.form (F.swap2) (by omega)
                obtain ⟨u, hu1, hu2⟩ := Fills.cell (F.swap2) k hlt
                have FN := (Fills.store (F.swap2) (fun h => n45 g h rfl) (fun h => n35 g h rfl) (g5 g rfl) k 97).swap2
                clear n34 n35 n45 g3 g4 g5 F
                go_wp2
                exact ⟨⟨k + 1, by omega, by go_num, FN⟩, by simp [intOf]; omega⟩
              · go_wp2_with fail
                have R := hr2.below F.below
                have RP := hpre.below F.below
                have C71 := (F.below.cell (p := ⟨g2, off2 + xs.length, none⟩) hlt2).trans h71
                have FB := Frame.ext b2 F.below
                have hsz := F.below.size
                clear F hr2 hpre h71 n34 n35 n45 g3 g4 g5
                refine (answers _).mono ?_
                rintro e w9 ⟨rfl, b9⟩
                have C := (b9.cell (p := ⟨g2, off2 + xs.length, none⟩) (by exact Nat.lt_of_lt_of_le hlt2 hsz)).trans C71
                have h0 := string22 (R.below b9)
                have h2 := string22 (RP.below b9)
                have FC := Frame.ext FB b9
                clear R RP C71 FB hsz
                go_wp2
                go_ret
                exact ⟨rfl, FC⟩
end Go.Proofs.Ytnemjmkhbnpfmaa.Laws
