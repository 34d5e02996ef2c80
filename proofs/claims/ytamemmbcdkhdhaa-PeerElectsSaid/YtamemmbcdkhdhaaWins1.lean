/-
  Contracts: peer.small, strings.Compare, peer.Wins.
-/
import Derived.Test.YtamemmbcdkhdhaaStep7
import Derived.Lib.ConvBytes
namespace Go.Proofs.Ytamemmbcdkhdhaa.Peer
open Go.RowKit Mem Cells
set_option linter.unusedVariables false
set_option linter.unusedSimpArgs false

/-- A byte without regard to case. -/
def lowI (x : Int) : Int := if 65 ≤ x ∧ x ≤ 90 then x + 32 else x
def byteAt (s : ByteArray) (j : Nat) : Int := ((s.data.toList.getD j 0).toNat : Int)
def lowL (s : ByteArray) : List Int := (List.range s.size).map fun j => lowI (byteAt s j)
def lowS (s : ByteArray) : ByteArray := strOfNums (lowL s)
theorem byteAt_bd (s : ByteArray) (j : Nat) : 0 ≤ byteAt s j ∧ byteAt s j ≤ 255 := by
  unfold byteAt
  have := (s.data.toList.getD j 0).toNat_lt
  omega
theorem lowI_bd {x : Int} (h : 0 ≤ x ∧ x ≤ 255) : 0 ≤ lowI x ∧ lowI x ≤ 255 := by unfold lowI; split <;> omega

theorem string52 {w : World} {v : Value} {xs : List Int} (hr : Reads .u8 w v xs) : (convert 52 9 v).run Try.prog w = .ok (.string (strOfNums xs)) w :=
  run_string 52 9 5 Try.underlying52 Try.underlying5 Try.underlying9 hr

/-- The bytes of s in the block g, the first k of them small. -/
def Half (wr : World) (g : Nat) (s : ByteArray) (k : Nat) : Prop := g < wr.heap.size ∧ ∀ j, j < s.size → wr.cell? ⟨g, j, none⟩ = some (.int .u8 (if j < k then lowI (byteAt s j) else byteAt s j)) ∧ wr.frozen? ⟨g, j, none⟩ = false
theorem Half.step {wr : World} {g : Nat} {s : ByteArray} {k : Nat} (h : Half wr g s k) (hk : k < s.size) : Half (wr.setCell ⟨g, k, none⟩ (.int .u8 (lowI (byteAt s k)))) g s (k + 1) := by
  refine ⟨by simpa [World.setCell] using h.1, fun j hj => ?_⟩
  have hj' := h.2 j hj
  have hk' := h.2 k hk
  by_cases e : j = k
  · subst e
    rw [if_pos (by omega)]
    exact ⟨by simp [go_sem, hk'.1], by simp [go_sem, hj'.2]⟩
  · have e2 : (if j < k + 1 then lowI (byteAt s j) else byteAt s j) = (if j < k then lowI (byteAt s j) else byteAt s j) := by
      by_cases h1 : j < k
      · rw [if_pos (by omega), if_pos h1]
      · rw [if_neg (by omega), if_neg h1]
    rw [e2]
    exact ⟨by simp [go_sem, hj'.1, Ne.symm e], by simp [go_sem, hj'.2]⟩

theorem Half.keep {wr : World} {g : Nat} {s : ByteArray} {k : Nat} (h : Half wr g s k) (e : lowI (byteAt s k) = byteAt s k) : Half wr g s (k + 1) := by
  refine ⟨h.1, fun j hj => ?_⟩
  have := h.2 j hj
  by_cases e2 : j = k
  · subst e2
    rw [if_neg (by omega)] at this
    rw [if_pos (by omega), e]; exact this
  · by_cases h1 : j < k
    · rw [if_pos h1] at this; rw [if_pos (by omega)]; exact this
    · rw [if_neg h1] at this; rw [if_neg (by omega)]; exact this
theorem string_at (w : World) (g c : Nat) (xs : List Int) (hc : ∀ i, i < xs.length → w.cell? ⟨g, 0 + i, none⟩ = some (.int .u8 (xs.getD i 0))) :
    (convert 52 9 (.slice (some ⟨g, 0, none⟩) xs.length c)).run Try.prog w = .ok (.string (strOfNums xs)) w := by
  rcases Nat.eq_zero_or_pos xs.length with h0 | h0
  · have hy : xs = [] := List.eq_nil_of_length_eq_zero h0
    subst hy
    rw [run_convert_bytes_string w 52 9 5 _ _ _ Try.underlying52 Try.underlying5 Try.underlying9]
    simp [Conv.bytesToString, loadCells, loadCellsFrom]
    rfl
  · exact run_convert_bytes_arg w 52 5 Try.underlying52 Try.underlying5 g 0 _ c xs rfl hc 9 Try.underlying9
theorem below_bytes (w : World) (s : ByteArray) : Below w.heap.size w (Lib.bytesWorld w 5 s) :=
  ⟨rfl, rfl, rfl, by rw [Lib.bytesWorld_size]; omega, fun k hk => Lib.bytesWorld_at_old w 5 s k hk⟩
theorem half_bytes (w : World) (s : ByteArray) : Half (Lib.bytesWorld w 5 s) w.heap.size s 0 := by
  refine ⟨by rw [Lib.bytesWorld_size]; omega, fun j hj => ⟨?_, ?_⟩⟩
  · rw [Lib.bytesWorld_cell w 5 s j hj, if_neg (by omega)]; rfl
  · have h := Lib.bytesWorld_at_new w 5 s
    have hn : (Lib.bytesCells w 5 s).size = s.data.size + (grownCap w s.size 0 5 - s.size) := by simp [Lib.bytesCells]
    have hs : s.size = s.data.size := rfl
    simp [World.frozen?, h]
    omega
theorem small_get (s : ByteArray) (i : Nat) (h : i < s.size) : (lowL s).getD i 0 = lowI (byteAt s i) := by simp [lowL, h]
set_option maxRecDepth 100000 in
set_option maxHeartbeats 1600000 in
theorem small (s : ByteArray) (w : World) (hs : s.size ≤ 9223372036854775807) : Calls Try.prog 21 #[.string s] w fun e w' => e = .returned (.string (lowS s)) ∧ Below w.heap.size w w' := by
  obtain ⟨C, hC⟩ : ∃ C, grownCap w s.size 0 5 = C := ⟨_, rfl⟩
  have kc := Lib.run_convert_string_bytes (P := Try.prog) w 9 52 5 s Try.underlying9 Try.underlying52 Try.underlying5
  rw [hC] at kc
  have hh := half_bytes w s
  have hb := below_bytes w s
  clear hC
  generalize Lib.bytesWorld w 5 s = W at kc hh hb
  go_enter Try.func21, Try.ntmps21
  go_wp2_with fail
  clear kc
  go_loopw [4, 5, 10] (fun a b i wr => ∃ k : Nat, k ≤ s.size ∧ i = .int .i64 k ∧ Half wr w.heap.size s k ∧ Below w.heap.size w wr) (fun _ _ i _ => s.size - (intOf i).toNat)
  case atStart => exact ⟨0, by omega, rfl, hh, hb⟩
  case round =>
    clear hh hb
    obtain ⟨k, hk, rfl, hh, hb⟩ := hrel
    by_cases hlt : k < s.size
    · obtain ⟨c0, z0⟩ := hh.2 k hlt
      rw [if_neg (by omega)] at c0
      have hbd := byteAt_bd s k
      have hst := hh.step hlt
      have q1 : (k : Int) < (s.size : Int) := by omega
      have hbb := hb.setCell (p := ⟨w.heap.size, k, none⟩) (Nat.le_refl _) (.int .u8 (lowI (byteAt s k)))
      obtain ⟨x, hx⟩ : ∃ x, byteAt s k = x := ⟨_, rfl⟩
      have HX := Lib.hid hx
      rw [hx] at c0 hbd hst hbb
      obtain ⟨b0, b1⟩ := hbd
      clear hx
      by_cases h1 : 65 ≤ x
      · by_cases h2 : x ≤ 90
        · rw [show lowI x = x - 65 + 97 from by unfold lowI; rw [if_pos ⟨h1, h2⟩]; omega] at hst hbb
          have HS := Lib.hid hst
          have HB := Lib.hid hbb
          clear hst hbb hh hb
          go_wp2_with fail
          exact ⟨⟨k + 1, by omega, by go_num, HS.out, HB.out⟩, by simp [intOf]; omega⟩
        · have HH := Lib.hid hh
          clear hst hbb hh
          go_wp2_with fail
          exact ⟨⟨k + 1, by omega, by go_num, HH.out.keep (by rw [HX.out]; unfold lowI; rw [if_neg (by omega)]), hb⟩, by simp [intOf]; omega⟩
      · have HH := Lib.hid hh
        clear hst hbb hh
        go_wp2_with fail
        exact ⟨⟨k + 1, by omega, by go_num, HH.out.keep (by rw [HX.out]; unfold lowI; rw [if_neg (by omega)]), hb⟩, by simp [intOf]; omega⟩
    · obtain rfl : k = s.size := by omega
      have hcv := string_at wr w.heap.size C (lowL s) (fun i hi => by
        have hi' : i < s.size := by simpa [lowL] using hi
        rw [small_get s i hi', Nat.zero_add, (hh.2 i hi').1, if_pos hi'])
      rw [show (lowL s).length = s.size from by simp [lowL]] at hcv
      rw [show strOfNums (lowL s) = lowS s from rfl] at hcv
      clear hh
      go_wp2_with fail
      go_ret
      exact ⟨rfl, hb⟩
end Go.Proofs.Ytamemmbcdkhdhaa.Peer
