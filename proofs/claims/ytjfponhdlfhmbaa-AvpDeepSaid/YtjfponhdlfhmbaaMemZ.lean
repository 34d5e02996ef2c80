/-
  'append(v, make([]T, m)...)', v of the call's own: m zeros behind. No program is looked into here.
-/
import Derived.Test.YtjfponhdlfhmbaaMem
namespace Go.Proofs.Ytjfponhdlfhmbaa.Mem
open Go.RowKit
set_option linter.unusedVariables false

theorem zeroCells_one (z : Value) (hz : z.cells = #[z]) (m : Nat) : (Builtin.zeroCells z.cells m).toList = List.replicate m z := by
  have h1 : z.cells.size = 1 := by rw [hz]; rfl
  apply List.ext_getElem
  · simp [Builtin.zeroCells, h1]
  · intro i h2 h3
    simp [Builtin.zeroCells, hz, Nat.mod_one]

theorem run_append_zeros {P : Program} (w : World) (k kn : IntKind) (B e : Nat) (t tn ty : TypeId) (i : TypeInfo) (bytes : Nat) (ht : P.underlying t = some (.slice e)) (htn : P.underlying tn = some (.int kn))
    (hi : P.info? e = some i) (hz : i.zero = some (.int k 0)) (hsize : i.size = 1) (hby : i.bytes = bytes)
    (v : Value) (xs : List Int) (hown : Row k e B w v xs) (kq : IntKind) (m : Nat) (h63 : xs.length + m ≤ maxLen) (hbytes : (xs.length + m) * bytes ≤ 140737488355328) (hbase : B ≤ w.heap.size) :
    ∃ v' w', (Builtin.append_ #[t, tn] ty #[v, .int kq m]).run P w = .ok v' w' ∧ Row k e B w' v' (xs ++ List.replicate m 0) ∧ w.grownBy w' v.ownBlock := by
  subst hby
  have hsmall : xs.length + m ≤ 9223372036854775807 := by simp only [maxLen] at h63; omega
  have hw : IntKind.i64.wrap (m : Int) = m := by rw [IntKind.wrap_i64]; omega
  have hneg : ¬ ((m : Int) < 0) := by omega
  have hmb : m * i.bytes ≤ 140737488355328 := Nat.le_trans (Nat.mul_le_mul_right _ (by omega)) hbytes
  have h48i : ¬ (281474976710656 < (m : Int) * (i.bytes : Int)) := by
    rw [← Int.natCast_mul]
    omega
  have hzl : (Builtin.zeroCells (Value.int k 0).cells m).toList = List.replicate m (.int k 0) := zeroCells_one _ rfl m
  have hza : Builtin.zeroCells (Value.int k 0).cells m = (List.replicate m (Value.int k 0)).toArray := by
    apply Array.ext'
    simpa using hzl
  have hmap : (xs ++ List.replicate m 0).map (Value.int k) = xs.map (Value.int k) ++ List.replicate m (.int k 0) := by simp
  by_cases hm : m = 0
  · subst hm
    refine ⟨v, w, ?_, by simpa using hown, ⟨rfl, rfl, rfl, Nat.le_refl _, fun _ _ _ => rfl⟩⟩
    rcases hown.2 with ⟨rfl, hn⟩ | ⟨g, cap, cur, rfl, _, _, hnc, _⟩
    · simp [Builtin.append_, run_underlying ht, run_underlying htn, sizeOf, typeInfo, hi, asInt, asIntOf, IntKind.wrap_i64]
    · simp [Builtin.append_, run_underlying ht, run_underlying htn, sizeOf, typeInfo, hi, asInt, asIntOf, hnc, storeCells, IntKind.wrap_i64]
  · have hns : ¬ (m * i.size = 0) := by rw [hsize]; omega
    rcases hown.2 with ⟨rfl, hn⟩ | ⟨g, cap, cur, rfl, hbg, hg, hnc, hcm, hcs, htake⟩
    · have hx : xs = [] := List.eq_nil_of_length_eq_zero hn
      subst hx
      have hr := Lib.run_append_nil_zeros (P := P) w t tn ty e i (.int k 0) kq kn ht htn hi hz m (by omega) (by omega) (by omega) (by omega)
      refine ⟨_, _, hr, ⟨by simp, .inr ⟨w.heap.size, _, _, by simp; rfl, hbase, heap_alloc_new w.drew _, ?_, ?_, ?_, ?_⟩⟩, ⟨rfl, rfl, rfl, by simp, fun q hq _ => Below.heap_alloc w.drew _ q hq⟩⟩
      · simpa using grownCap_ge w m 0 e
      · exact grownCap_le_maxLen w m 0 e (by simpa using h63)
      · have := grownCap_ge w m 0 e
        simp [size_zeroCells, Value.cells]
        omega
      · simp only [Array.toList_append, hzl]
        rw [List.take_append_of_le_length (by simp)]
        simp
    · by_cases hroom : xs.length + m ≤ cap
      · have hst := run_storeCells_at P g (xs.length * 1) e (List.replicate m (Value.int k 0)) 0 cur w hg (by rw [List.length_replicate, hcs]; omega) (by intro u hu; rw [List.eq_of_mem_replicate hu]; rfl)
        simp only [Nat.add_zero] at hst
        refine ⟨.slice (some ⟨g, 0, none⟩) (xs.length + m) cap, w.setRow g (cur.toList.take (xs.length * 1) ++ List.replicate m (Value.int k 0) ++ cur.toList.drop (xs.length * 1 + (List.replicate m (Value.int k 0)).length)).toArray, ?_, ⟨by simp, .inr ⟨g, cap, _, by simp, hbg, setRow_heap w g cur _ e _ hg, by simpa using hroom, hcm, ?_, ?_⟩⟩, ⟨rfl, rfl, rfl, by simp, fun q _ hq => setRow_other w g q _ (fun e => hq (by simp [Value.ownBlock, e]))⟩⟩
        · simp [Builtin.append_, run_underlying ht, run_underlying htn, sizeOf, typeInfo, zeroValue, hi, hz, asInt, asIntOf, hw, hneg, h48i, hroom, hza, Addr.add_lit, hsize, hm] at hst ⊢
          rw [hst]
          simp
        · simp only [List.size_toArray, List.length_append, List.length_take, List.length_drop, Array.length_toList, List.length_replicate]
          omega
        · rw [hmap, htake]
          have hl : ((xs ++ List.replicate m 0).length * 1) = (xs.map (Value.int k) ++ List.replicate m (Value.int k 0)).length := by simp
          rw [hl]
          exact List.take_left
      · have holds : ∀ j u, (xs.map (Value.int k))[j]? = some u → w.cell? ((⟨g, 0, none⟩ : Addr).add j) = some u := hown.cells (g := g) rfl
        have hfc := run_firstCells_some (P := P) w.drew i.size xs.length ⟨g, 0, none⟩ xs.length cap (xs.map (Value.int k)) (by rw [hsize]; simp) (by simpa using holds)
        have hr := Lib.run_append_grow_zeros (P := P) w t tn ty e i (.int k 0) kq kn ht htn hi hz (some ⟨g, 0, none⟩) xs.length cap (xs.map (Value.int k)) hfc m (by omega) (by omega) (by omega) (by omega) (by omega) (growslice_fits (by omega) hbytes)
        refine ⟨_, _, hr, ⟨by simp, .inr ⟨w.heap.size, _, _, by simp; rfl, hbase, heap_alloc_new w.drew _, ?_, ?_, ?_, ?_⟩⟩, ⟨rfl, rfl, rfl, by simp, fun q hq _ => Below.heap_alloc w.drew _ q hq⟩⟩
        · simpa using grownCap_ge w (xs.length + m) cap e
        · exact grownCap_le_maxLen w _ cap e h63
        · have := grownCap_ge w (xs.length + m) cap e
          simp [size_zeroCells, Value.cells]
          omega
        · rw [hmap]
          simp only [Array.toList_append, hzl]
          have hl : ((xs ++ List.replicate m 0).length * 1) = (xs.map (Value.int k) ++ List.replicate m (Value.int k 0)).length := by simp
          rw [hl]
          exact List.take_left

section
variable {P : Program} {w : World} {ops : Array Oper} {rest : List Oper} {o : Oper} {a : Act} {Q : Exit → Act → World → Prop}

theorem wpl_append_zeros (hgd : o.guard = none) (s x : Operand) (t tn : TypeId) (ho : o.op = .call { callee := .builtin .append, args := #[s, x], argTypes := #[t, tn] })
    (k kn : IntKind) (B e bytes : Nat) (i : TypeInfo) (ht : P.underlying t = some (.slice e)) (htn : P.underlying tn = some (.int kn)) (hi : P.info? e = some i) (hz : i.zero = some (.int k 0)) (hsize : i.size = 1) (hby : i.bytes = bytes)
    (v : Value) (xs : List Int) (hs : a.eval s = v) (hown : Row k e B w v xs) (kq : IntKind) (q : Int) (m : Nat) (hx : a.eval x = .int kq q) (hq : q = m)
    (h63 : xs.length + m ≤ maxLen) (hbytes : (xs.length + m) * bytes ≤ 140737488355328) (hbase : B ≤ w.heap.size)
    (h : ∀ v' w', Row k e B w' v' (xs ++ List.replicate m 0) → w.grownBy w' v.ownBlock → wpList P ops Q rest (a.put o.dst v') w') : wpList P ops Q (o :: rest) a w := by
  subst hq
  obtain ⟨v', w', hr, h2, h3⟩ := run_append_zeros (P := P) w k kn B e t tn o.type i bytes ht htn hi hz hsize hby v xs hown kq m h63 hbytes hbase
  exact Lib.wpList_append_run w hgd s x t tn ho v _ hs hx v' w' hr (h v' w' h2 h3)
end
end Go.Proofs.Ytjfponhdlfhmbaa.Mem
