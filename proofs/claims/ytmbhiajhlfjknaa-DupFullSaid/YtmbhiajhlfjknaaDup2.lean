/-
  Contracts where nothing is too old: slices.DeleteFunc, age, find, Find, Len; New; Put of one more.
-/
import Derived.Test.YtmbhiajhlfjknaaDup1
import Derived.Test.YtmbhiajhlfjknaaMonoT
import Derived.Deep.Cut
namespace Go.Proofs.Ytmbhiajhlfjknaa.Dup
open Go.RowKit Mem Cells Ops
set_option linter.unusedVariables false
set_option linter.unusedSimpArgs false

theorem posI_none (p : K → Bool) (ks : List K) (h : ∀ k ∈ ks, p k = false) : posI p ks = -1 := by
  have : place p ks = ks.length := List.findIdx_eq_length.2 h
  unfold posI
  rw [this, if_neg (Nat.lt_irrefl _)]
theorem below_same {w w' : World} {S : Nat} {T : TypeId} {cs : Array Value} (hg : w.grownBy w' (some S)) (h : At w S T cs) (h' : At w' S T cs) : Below w.heap.size w w' := by
  refine ⟨hg.os, hg.tape, hg.output, hg.size, fun j hj => ?_⟩
  by_cases e : j = S
  · subst e
    rw [show w'.heap[j]? = _ from h', show w.heap[j]? = _ from h]
  · exact hg.block j hj (fun e' => e (Option.some.inj e'))
def rowS (window most last : Int) (v : Value) : Array Value := #[.int .i64 window, .int .i64 most, v, .int .i64 last]
theorem noByteS (window most last : Int) (p : Option Addr) (n c : Nat) : NoByte (rowS window most last (.slice p n c)) := by
  intro j x h
  simp only [rowS] at h
  match j with
  | 0 | 1 | 2 | 3 => simp at h
  | j + 4 => simp at h
set_option maxRecDepth 100000 in
set_option maxHeartbeats 800000 in
theorem delNone (v : Value) (ks : List K) (B : Nat) (now window most last : Int) (v0 : Value) (gn gs S : Nat) (w : World) (hr : OwnK B w v ks) (hok : ∀ k ∈ ks, k.ok) (hnow : i64 now) (hwin : 0 ≤ window ∧ window ≤ 1048576)
    (hn : At w gn 3 #[.int .i64 now]) (hs : At w gs 25 #[.pointer (some ⟨S, 0, none⟩)]) (hS : At w S 39 #[.int .i64 window, .int .i64 most, v0, .int .i64 last]) (hno : ∀ k ∈ ks, oldB now window k = false) :
    Calls Try.prog 14 #[v, .func (.func 15) #[] #[.pointer (some ⟨gn, 0, none⟩), .pointer (some ⟨gs, 0, none⟩)]] w fun e w' => e = .returned v ∧ Below w.heap.size w w' := by
  have PI := Lib.hid (by have := indexOld v ks B now window most last v0 gn gs S w hr hok hnow hwin hn hs hS; rwa [posI_none _ _ hno] at this)
  obtain ⟨p, c, rfl, _⟩ := hr.shape
  obtain ⟨n, hnn⟩ : ∃ n, ks.length = n := ⟨_, rfl⟩
  rw [hnn] at PI ⊢
  clear hr hok hnow hwin hn hs hS hno hnn
  go_enter Try.func14, Try.ntmps14
  go_wp2_with (go_at_call 16; go_must (refine PI.out.mono ?_; rintro e u ⟨rfl, hb⟩))
  go_ret
  exact ⟨rfl, hb⟩
set_option maxRecDepth 100000 in
set_option maxHeartbeats 800000 in
theorem age (ks : List K) (B : Nat) (now window most last : Int) (p : Option Addr) (c S : Nat) (w : World) (hr : OwnK B w (.slice p ks.length c) ks) (hok : ∀ k ∈ ks, k.ok) (hnow : i64 now) (hwin : 0 ≤ window ∧ window ≤ 1048576)
    (hS : At w S 39 (rowS window most last (.slice p ks.length c))) (hno : ∀ k ∈ ks, oldB now window k = false) :
    Calls Try.prog 11 #[.pointer (some ⟨S, 0, none⟩), .int .i64 now] w fun e w' => e = .returned (.tuple #[]) ∧ Below w.heap.size w w' := by
  have PD := Lib.hid (fun gn gs u (h : Below w.heap.size w u) hn hs => delNone _ ks B now window most last (.slice p ks.length c) gn gs S u (hr.below h) hok hnow hwin hn hs (hS.ext h) hno)
  obtain ⟨n, hnn⟩ : ∃ n, ks.length = n := ⟨_, rfl⟩
  rw [hnn] at PD hS
  clear hr hok hnow hwin hno hnn
  go_enter Try.func11, Try.ntmps11
  go_wp2_with (first
    | ((with_reducible refine wpl_boxAt rfl 25 (.tmp 0) rfl #[.pointer (some ⟨S, 0, none⟩)] ?_ ?_); rfl; go_must (intro w1 hat1 hb1 hs1; clear hs1))
    | ((with_reducible refine wpl_boxAt rfl 3 (.tmp 1) rfl #[.int .i64 now] ?_ ?_); rfl; go_must (intro w2 hat2 hb2 hs2; clear hs2)))
  have hb := hb1.trans (hb2.mono hb1.size)
  have hatS := hS.ext hb
  have hat1 := hat1.ext hb2
  have cs := hat1.cell 0
  have c2 := hatS.cell 2
  simp [rowS] at cs c2
  have ls := hat1.lt
  have lS := hatS.lt
  clear hb1 hb2 hS
  have hb0 := hb
  refine Mono.wp_region_monoT 9 [some 4, some 5, some 6, some 7, some 8, some 9, some 10, some 11, some 12] [Mono.isV (.pointer (some ⟨S, 0, none⟩)), Mono.isV (.pointer (some ⟨S, 0, none⟩)), Mono.isV (.pointer (some ⟨S, 0, none⟩)), Mono.isV (.pointer (some ⟨S, 2, none⟩)), Mono.isV (.slice p n c), Mono.isV (.func (.func 15) #[] #[.pointer (some ⟨w1.heap.size, 0, none⟩), .pointer (some ⟨w.heap.size, 0, none⟩)]), Mono.isV (.slice p n c), Mono.isV (.pointer (some ⟨S, 0, none⟩)), Mono.isV (.pointer (some ⟨S, 2, none⟩))] (by kernel_rfl) (by kernel_rfl) ?_ ?_
  · simp only [Mono.OpGoals, List.take_succ_cons, List.take_zero, and_true]
    refine ⟨?_, ?_, ?_, ?_, ?_, ?_, ?_, ?_, ?_⟩
    · intro a u hbu hsu hdu
      have cs := (hbu.cell (p := ⟨w.heap.size, 0, none⟩) ls).trans cs; have c2 := (hbu.cell (p := ⟨S, 2, none⟩) lS).trans c2
      refine Mono.if_want rfl ?_
      have z2 : a.eval (.tmp 2) = .pointer (some ⟨w.heap.size, 0, none⟩) := hsu 2 (by decide)
      simp [Act.eval] at z2
      exact Mono.ok_val (.pointer (some ⟨S, 0, none⟩)) (by simp [execOp, z2, go_sem, cs, c2]) rfl
    · intro a u hbu hsu hdu
      have cs := (hbu.cell (p := ⟨w.heap.size, 0, none⟩) ls).trans cs; have c2 := (hbu.cell (p := ⟨S, 2, none⟩) lS).trans c2
      refine Mono.if_want rfl ?_
      have z2 : a.eval (.tmp 2) = .pointer (some ⟨w.heap.size, 0, none⟩) := hsu 2 (by decide)
      simp [Act.eval] at z2
      exact Mono.ok_val (.pointer (some ⟨S, 0, none⟩)) (by simp [execOp, z2, go_sem, cs, c2]) rfl
    · intro a u hbu hsu hdu
      have cs := (hbu.cell (p := ⟨w.heap.size, 0, none⟩) ls).trans cs; have c2 := (hbu.cell (p := ⟨S, 2, none⟩) lS).trans c2
      refine Mono.if_want rfl ?_
      have z5 : a.eval (.tmp 5) = .pointer (some ⟨S, 0, none⟩) := Mono.dep_at hdu (i := 1) (d := 5) rfl rfl rfl
      simp [Act.eval] at z5
      exact Mono.ok_val (.pointer (some ⟨S, 0, none⟩)) (by simp [execOp, z5, go_sem, cs, c2]) rfl
    · intro a u hbu hsu hdu
      have cs := (hbu.cell (p := ⟨w.heap.size, 0, none⟩) ls).trans cs; have c2 := (hbu.cell (p := ⟨S, 2, none⟩) lS).trans c2
      refine Mono.if_want rfl ?_
      have z6 : a.eval (.tmp 6) = .pointer (some ⟨S, 0, none⟩) := Mono.dep_at hdu (i := 2) (d := 6) rfl rfl rfl
      simp [Act.eval] at z6
      exact Mono.ok_val (.pointer (some ⟨S, 2, none⟩)) (by simp [execOp, z6, go_sem, cs, c2]) rfl
    · intro a u hbu hsu hdu
      have cs := (hbu.cell (p := ⟨w.heap.size, 0, none⟩) ls).trans cs; have c2 := (hbu.cell (p := ⟨S, 2, none⟩) lS).trans c2
      refine Mono.if_want rfl ?_
      have z7 : a.eval (.tmp 7) = .pointer (some ⟨S, 2, none⟩) := Mono.dep_at hdu (i := 3) (d := 7) rfl rfl rfl
      simp [Act.eval] at z7
      exact Mono.ok_val (.slice p n c) (by simp [execOp, z7, go_sem, cs, c2]) rfl
    · intro a u hbu hsu hdu
      have cs := (hbu.cell (p := ⟨w.heap.size, 0, none⟩) ls).trans cs; have c2 := (hbu.cell (p := ⟨S, 2, none⟩) lS).trans c2
      refine Mono.if_want rfl ?_
      have z3 : a.eval (.tmp 3) = .pointer (some ⟨w1.heap.size, 0, none⟩) := hsu 3 (by decide)
      simp [Act.eval] at z3
      have z2 : a.eval (.tmp 2) = .pointer (some ⟨w.heap.size, 0, none⟩) := hsu 2 (by decide)
      simp [Act.eval] at z2
      exact Mono.ok_val (.func (.func 15) #[] #[.pointer (some ⟨w1.heap.size, 0, none⟩), .pointer (some ⟨w.heap.size, 0, none⟩)]) (by simp [execOp, z3, z2, go_sem, cs, c2]) rfl
    · intro a u hbu hsu hdu
      have cs := (hbu.cell (p := ⟨w.heap.size, 0, none⟩) ls).trans cs; have c2 := (hbu.cell (p := ⟨S, 2, none⟩) lS).trans c2
      refine Mono.if_want rfl ?_
      have z8 : a.eval (.tmp 8) = .slice p n c := Mono.dep_at hdu (i := 4) (d := 8) rfl rfl rfl
      simp [Act.eval] at z8
      have z9 : a.eval (.tmp 9) = .func (.func 15) #[] #[.pointer (some ⟨w1.heap.size, 0, none⟩), .pointer (some ⟨w.heap.size, 0, none⟩)] := Mono.dep_at hdu (i := 5) (d := 9) rfl rfl rfl
      simp [Act.eval] at z9
      refine Mono.ok_call 14 _ _ rfl #[.slice p n c, .func (.func 15) #[] #[.pointer (some ⟨w1.heap.size, 0, none⟩), .pointer (some ⟨w.heap.size, 0, none⟩)]] (by simp [execOp, z8, z9, go_sem]) ((PD.out w1.heap.size w.heap.size u (hb0.trans (hbu.mono hb0.size)) (hat2.ext hbu) (hat1.ext hbu)).mono ?_)
      rintro e u1 ⟨rfl, hb1⟩
      exact ⟨_, rfl, hb1, rfl⟩
    · intro a u hbu hsu hdu
      have cs := (hbu.cell (p := ⟨w.heap.size, 0, none⟩) ls).trans cs; have c2 := (hbu.cell (p := ⟨S, 2, none⟩) lS).trans c2
      refine Mono.if_want rfl ?_
      have z4 : a.eval (.tmp 4) = .pointer (some ⟨S, 0, none⟩) := Mono.dep_at hdu (i := 0) (d := 4) rfl rfl rfl
      simp [Act.eval] at z4
      exact Mono.ok_val (.pointer (some ⟨S, 0, none⟩)) (by simp [execOp, z4, go_sem, cs, c2]) rfl
    · intro a u hbu hsu hdu
      have cs := (hbu.cell (p := ⟨w.heap.size, 0, none⟩) ls).trans cs; have c2 := (hbu.cell (p := ⟨S, 2, none⟩) lS).trans c2
      refine Mono.if_want rfl ?_
      have z11 : a.eval (.tmp 11) = .pointer (some ⟨S, 0, none⟩) := Mono.dep_at hdu (i := 7) (d := 11) rfl rfl rfl
      simp [Act.eval] at z11
      exact Mono.ok_val (.pointer (some ⟨S, 2, none⟩)) (by simp [execOp, z11, go_sem, cs, c2]) rfl
  intro u hu
  simp only [Mono.Fin]
  rintro _ rfl _ rfl _ rfl _ rfl _ rfl _ rfl _ rfl _ rfl _ rfl
  simp [Act.put]
  have hatS2 := hatS.ext hu
  go_wp2_with ((with_reducible refine wpl_storeC rfl 37 (.tmp 12) (.tmp 10) rfl rfl S 2 39 (rowS window most last (.slice p n c)) (rowS window most last (.slice p n c)) (.slice p n c) ?_ ?_ hatS2 ?_ (by kernel_rfl) ?_ ?_ ?_); rfl; rfl; exact (show (2 : Nat) < 4 by decide); rfl; rfl; go_must (intro w5 hatS5 hg; have hbz := below_same hg hatS2 hatS5))
  go_end0
  have hbu := hb0.trans (hu.mono hb0.size)
  exact ⟨rfl, hbu.trans (hbz.mono hbu.size)⟩
end Go.Proofs.Ytmbhiajhlfjknaa.Dup
