/-
  Contracts: Put of one that is there; slices.DeleteFunc where the only one is too old.
-/
import Derived.Test.YtmbhiajhlfjknaaDup4
namespace Go.Proofs.Ytmbhiajhlfjknaa.Dup
open Go.RowKit Mem Cells Ops
set_option linter.unusedVariables false
set_option linter.unusedSimpArgs false

set_option maxRecDepth 100000 in
set_option maxHeartbeats 1600000 in
theorem putThere {B S c : Nat} {w : World} {window most last : Int} {p : Option Addr} {ks : List K} (h : Has B w S window most last p c ks) (host : ByteArray) (fin now : Int) (v : Value) (hnow : i64 now) (hno : ∀ k ∈ ks, oldB now window k = false) (hp : place (hitB host fin) ks < ks.length) :
    Calls Try.prog 8 #[.pointer (some ⟨S, 0, none⟩), .string host, .int .u32 fin, v, .int .i64 now] w fun e w' => e = .returned (.int .i64 9) ∧ Below w.heap.size w w' := by
  have PA := Lib.hid (age ks B now window most last p c S w h.own h.ok hnow h.win h.row hno)
  have PF := Lib.hid (fun u (hb : Below w.heap.size w u) => find (h.below hb) host fin)
  have e1 : posI (hitB host fin) ks = (place (hitB host fin) ks : Int) := by unfold posI; rw [if_pos hp]
  rw [e1] at PF
  obtain ⟨i, hi⟩ : ∃ i, place (hitB host fin) ks = i := ⟨_, rfl⟩
  rw [hi] at PF
  clear h hnow hno hp e1 hi
  go_enter Try.func8, Try.ntmps8
  go_wp2_with (first
    | (go_at_call 11; go_must (refine PA.out.mono ?_; rintro e u1 ⟨rfl, hu⟩; have T1 := hu.size))
    | ((with_reducible refine wpl_allocAt rfl 42 rfl #[.string .empty, .int .u32 0] (by kernel_rfl) ?_); go_must (intro u2 hat hb hs; clear hs; have hu2 := hu.trans (hb.mono hu.size)))
    | ((with_reducible refine wpl_storeR rfl 42 (.tmp 11) (.tmp 19) rfl rfl u1.heap.size 42 #[.string .empty, .int .u32 0] #[.string host, .int .u32 fin] ?_ ?_ hat (by kernel_rfl) ?_ ?_ ?_); rfl; rfl; rfl; (simp [Value.oneCell']); go_must (intro u3 hat3 hg; have hu3 := below_grown hu2 hg hu2.size hu.size))
    | ((with_reducible refine wpl_loadAt rfl 42 (.tmp 11) rfl u1.heap.size 42 #[.string host, .int .u32 fin] hat3 _ Try.underlying42 rfl (by kernel_rfl) ?_ ?_); rfl)
    | (go_at_call 12; go_must (refine (PF.out _ hu3).mono ?_; rintro e u4 ⟨rfl, hb⟩; have hu4 := hu3.trans (hb.mono hu3.size))))
  go_ret
  exact ⟨rfl, hu4⟩
theorem noByteTake {a : Array Value} (h : NoByte a) (n : Nat) : ∀ v ∈ a.toList.take n, ∀ x : Int, v ≠ .int .u8 x := by
  intro v hv x e
  obtain ⟨i, hi⟩ := List.mem_iff_getElem?.1 (List.mem_of_mem_take hv)
  exact h i x (by rw [← e]; simpa using hi)
theorem noByteDrop {a : Array Value} (h : NoByte a) (n : Nat) : ∀ v ∈ a.toList.drop n, ∀ x : Int, v ≠ .int .u8 x := by
  intro v hv x e
  obtain ⟨i, hi⟩ := List.mem_iff_getElem?.1 (List.mem_of_mem_drop hv)
  exact h i x (by rw [← e]; simpa using hi)
theorem noByteOf {l : List Value} (h : ∀ v ∈ l, ∀ x : Int, v ≠ .int .u8 x) : NoByte l.toArray := by
  intro j x e
  have : l[j]? = some (.int .u8 x) := by simpa using e
  exact h _ (List.mem_of_getElem? this) x rfl
/-- 'clear' of one element in a block that holds no bytes. -/
theorem run_clear1 (w : World) (ty : TypeId) (g off c : Nat) (cur : Array Value) (hat : At w g 46 cur) (hn : NoByte cur) (hs : off + 4 ≤ cur.size) :
    ∃ w' cur', (Builtin.clear_ #[37] ty #[.slice (some ⟨g, off, none⟩) 1 c]).run Try.prog w = .ok (.tuple #[]) w' ∧ At w' g 46 cur' ∧ NoByte cur' ∧ cur'.size = cur.size ∧ w.grownBy w' (some g) := by
  obtain ⟨i, z, i1, i2, i3, i4, i5⟩ := info46
  have hz : (Builtin.zeroCells zeroK 1).toList = [.string .empty, .int .u32 0, .int .i64 0, .slice none 0 0] := by kernel_rfl
  have hst := run_storeCells_at Try.prog g off 46 [.string .empty, .int .u32 0, .int .i64 0, .slice none 0 0] 0 cur w hat (by simpa using hs) (by intro v hv; simp at hv; rcases hv with rfl | rfl | rfl | rfl <;> rfl)
  obtain ⟨cs, hcs⟩ : ∃ cs, (cur.toList.take (off + 0) ++ [Value.string .empty, .int .u32 0, .int .i64 0, .slice none 0 0] ++ cur.toList.drop (off + 0 + [Value.string .empty, .int .u32 0, .int .i64 0, .slice none 0 0].length)).toArray = cs := ⟨_, rfl⟩
  rw [hcs] at hst
  refine ⟨w.setRow g cs, cs, ?_, At.row hat, ?_, ?_, ⟨rfl, rfl, rfl, by simp, fun q _ hq => setRow_other _ _ _ _ (fun e => hq (by rw [e]))⟩⟩
  · simp [Builtin.clear_, run_underlying Try.underlying37, zeroValue, typeInfo, i1, i2, i5, hz]
    rw [hst]
    rfl
  · rw [← hcs]
    refine noByteOf fun v hv x e => ?_
    rcases List.mem_append.1 hv with hv | hv
    · rcases List.mem_append.1 hv with hv | hv
      · exact noByteTake hn _ v hv x e
      · subst e; simp at hv
    · exact noByteDrop hn _ v hv x e
  · rw [← hcs]
    simp
    omega
end Go.Proofs.Ytmbhiajhlfjknaa.Dup
