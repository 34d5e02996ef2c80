/-
  The list that DupFull keeps (plain). No walk.
-/
import Derived.Test.YtmbhiajhlfjknaaFull4
namespace Go.Proofs.Ytmbhiajhlfjknaa.Dup
open Go.RowKit Mem Cells Ops
set_option linter.unusedVariables false
set_option linter.unusedSimpArgs false

def hostH : ByteArray := ⟨#[104]⟩
def kAt (j : Nat) : K := ⟨hostH, j, (j / 10 : Nat), [(j : Int)]⟩
/-- The last m of the first i. -/
def lastOf (m i : Nat) : List K := (List.range' (i - m) (min i m)).map kAt
theorem lastOf_length (m i : Nat) : (lastOf m i).length = min i m := by simp [lastOf]
theorem lastOf_mem (m i : Nat) (k : K) (h : k ∈ lastOf m i) : ∃ j, i - m ≤ j ∧ j < i ∧ k = kAt j := by
  obtain ⟨j, hj, rfl⟩ := List.mem_map.1 h
  rw [List.mem_range'_1] at hj
  exact ⟨j, by omega, by omega, rfl⟩
theorem lastOf_room (m i : Nat) (h : i < m) : lastOf m (i + 1) = lastOf m i ++ [kAt i] := by
  unfold lastOf
  rw [show min (i + 1) m = i + 1 from by omega, show min i m = i from by omega, show i + 1 - m = 0 from by omega, show i - m = 0 from by omega, List.range'_concat, List.map_append]
  simp
theorem lastOf_full (m i : Nat) (h : m ≤ i) (h0 : 0 < m) : ∃ k0 kt, lastOf m i = k0 :: kt ∧ lastOf m (i + 1) = kt ++ [kAt i] := by
  obtain ⟨q, rfl⟩ : ∃ q, m = q + 1 := ⟨m - 1, by omega⟩
  refine ⟨kAt (i - (q + 1)), (List.range' (i - q) q).map kAt, ?_, ?_⟩
  · unfold lastOf
    rw [show min i (q + 1) = q + 1 from by omega, List.range'_succ, List.map_cons, show i - (q + 1) + 1 = i - q from by omega]
  · unfold lastOf
    rw [show min (i + 1) (q + 1) = q + 1 from by omega, show i + 1 - (q + 1) = i - q from by omega, List.range'_concat, List.map_append]
    simp
    congr 1
    omega
theorem hit_ne (i j : Nat) (h : j ≠ i) : hitB hostH (i : Nat) (kAt j) = false := by
  unfold hitB
  rw [Bool.and_eq_false_iff]
  right
  simp [kAt]
  omega
theorem hit_eq (i : Nat) : hitB hostH (i : Nat) (kAt i) = true := by simp [hitB, kAt]
theorem hit_g (fin : Int) (j : Nat) : hitB ⟨#[103]⟩ fin (kAt j) = false := by
  unfold hitB
  rw [Bool.and_eq_false_iff]
  left
  apply decide_eq_false
  simp only [kAt, hostH]
  rw [ByteArray.toList_eq, ByteArray.toList_eq]
  decide
theorem find_none (p : K → Bool) (host : ByteArray) (fin : Int) (ks : List K) (h : ∀ k ∈ ks, hitB host fin k = false) : findK host fin ks = ([], false) := by
  have : place (hitB host fin) ks = ks.length := List.findIdx_eq_length.2 h
  unfold findK
  rw [this, List.getElem?_eq_none (Nat.le_refl _)]
theorem find_at (host : ByteArray) (fin : Int) (ks : List K) (k : K) (hk : k ∈ ks) (hh : hitB host fin k = true) (hu : ∀ k' ∈ ks, hitB host fin k' = true → k' = k) : findK host fin ks = (k.bytes, true) := by
  have hlt : place (hitB host fin) ks < ks.length := List.findIdx_lt_length.2 ⟨k, hk, hh⟩
  have hx := List.getElem?_eq_getElem hlt
  have h1 := place_hit _ _ _ hx
  have h2 := hu _ (List.getElem_mem hlt) h1
  unfold findK
  rw [hx, h2]
theorem find_lastOf (m n i : Nat) : findK hostH (i : Nat) (lastOf m n) = if n - m ≤ i ∧ i < n then ([(i : Int)], true) else ([], false) := by
  by_cases h : n - m ≤ i ∧ i < n
  · rw [if_pos h]
    refine find_at _ _ _ (kAt i) (List.mem_map.2 ⟨i, List.mem_range'_1.2 (by omega), rfl⟩) (hit_eq i) (fun k' hk' hh => ?_)
    obtain ⟨j, _, _, rfl⟩ := lastOf_mem m n k' hk'
    by_cases e : j = i
    · rw [e]
    · rw [hit_ne i j e] at hh; cases hh
  · rw [if_neg h]
    refine find_none (fun _ => false) _ _ _ (fun k hk => ?_)
    obtain ⟨j, h1, h2, rfl⟩ := lastOf_mem m n k hk
    exact hit_ne i j (by omega)
theorem lastOf_old (m n : Nat) (now : Int) (h : n ≤ 1000) (hn : now ≤ 1000) : ∀ k ∈ lastOf m n, oldB now 1000 k = false := by
  intro k hk
  obtain ⟨j, h1, h2, rfl⟩ := lastOf_mem m n k hk
  exact old_at _ _ _ (.inr (by simp only [kAt]; omega))
theorem putNext {B S c m i : Nat} {w : World} {p : Option Addr} {last : Int} (h : Has B w S 1000 m last p c (lastOf m i)) (hSB : S < B) (hB : B ≤ w.heap.size) (hm : 1 ≤ m ∧ m ≤ 50) (hi : i ≤ 120) (hl : 0 ≤ last ∧ last ≤ (i / 10 : Nat)) (v : Value) (hr : Reads .u8 w v [(i : Int)]) :
    Calls Try.prog 8 #[.pointer (some ⟨S, 0, none⟩), .string hostH, .int .u32 i, v, .int .i64 ((i : Int) / 10)] w fun e w' => e = .returned (.int .i64 0) ∧ (∃ p' c', Has B w' S 1000 m (i / 10 : Nat) p' c' (lastOf m (i + 1))) ∧ ∀ b, b ≤ S → b ≤ w.heap.size → Below b w w' := by
  have hno := lastOf_old m i (i / 10 : Nat) (by omega) (by omega)
  have hnew : ∀ k ∈ lastOf m i, hitB hostH (i : Int) k = false := fun k hk => by
    obtain ⟨j, h1, h2, rfl⟩ := lastOf_mem m i k hk
    exact hit_ne i j (by omega)
  have hlen := lastOf_length m i
  rw [show (i : Int) / 10 = ((i / 10 : Nat) : Int) from rfl]
  by_cases hc : i < m
  · have := putMore h hSB hB hostH i (i / 10 : Nat) v [(i : Int)] hr (by simp) (by omega) hl.1 (by omega) (by omega) (by omega) hno hnew
    rw [lastOf_room m i hc]
    exact this
  · obtain ⟨k0, kt, e1, e2⟩ := lastOf_full m i (by omega) (by omega)
    have := putFull h hSB hB hostH i (i / 10 : Nat) v [(i : Int)] hr (by simp) (by omega) hl.1 (by omega) (by omega) (by omega) k0 kt e1 hno hnew
    rw [e2]
    exact this
end Go.Proofs.Ytmbhiajhlfjknaa.Dup
