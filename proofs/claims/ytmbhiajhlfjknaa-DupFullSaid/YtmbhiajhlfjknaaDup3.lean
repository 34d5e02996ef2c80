/-
  Contracts where nothing is too old: find, Find, Len; nil stores; New.
-/
import Derived.Test.YtmbhiajhlfjknaaDup2
namespace Go.Proofs.Ytmbhiajhlfjknaa.Dup
open Go.RowKit Mem Cells Ops
set_option linter.unusedVariables false
set_option linter.unusedSimpArgs false

/-- The store S: its row, and the list that it holds. -/
structure Has (B : Nat) (w : World) (S : Nat) (window most last : Int) (p : Option Addr) (c : Nat) (ks : List K) : Prop where
  row : At w S 39 (rowS window most last (.slice p ks.length c))
  own : OwnK B w (.slice p ks.length c) ks
  ok : ∀ k ∈ ks, k.ok
  win : 0 ≤ window ∧ window ≤ 1048576
theorem Has.below {B : Nat} {w w' : World} {S : Nat} {window most last : Int} {p : Option Addr} {c : Nat} {ks : List K} (h : Has B w S window most last p c ks) (hb : Below w.heap.size w w') : Has B w' S window most last p c ks :=
  ⟨h.row.ext hb, h.own.below hb, h.ok, h.win⟩
def findK (host : ByteArray) (fin : Int) (ks : List K) : List Int × Bool := match ks[place (hitB host fin) ks]? with | some k => (k.bytes, true) | none => ([], false)
def FindIs (w : World) (R : List Int × Bool) (e : Ending) (w' : World) : Prop := ∃ v', e = .returned (.tuple #[v', .bool R.2]) ∧ Row .u8 5 w.heap.size w' v' R.1 ∧ Below w.heap.size w w'
set_option maxRecDepth 100000 in
set_option maxHeartbeats 800000 in
theorem find {B S c : Nat} {w : World} {window most last : Int} {p : Option Addr} {ks : List K} (h : Has B w S window most last p c ks) (host : ByteArray) (fin : Int) :
    Calls Try.prog 12 #[.pointer (some ⟨S, 0, none⟩), .agg #[.string host, .int .u32 fin]] w fun e w' => e = .returned (.int .i64 (posI (hitB host fin) ks)) ∧ Below w.heap.size w w' := by
  have PI := Lib.hid (fun g u (hb : Below w.heap.size w u) hk => indexHit _ ks B host fin g u (h.own.below hb) h.ok hk)
  have hrow := h.row
  obtain ⟨n, hnn⟩ : ∃ n, ks.length = n := ⟨_, rfl⟩
  rw [hnn] at PI hrow
  clear h hnn
  go_enter Try.func12, Try.ntmps12
  go_wp2_with (first
    | ((with_reducible refine wpl_boxAt rfl 42 (.tmp 1) rfl #[.string host, .int .u32 fin] ?_ ?_); rfl; go_must (intro w1 hat1 hb1 hs1; clear hs1; have hr1 := hrow.ext hb1; have c2 := hr1.cell 2; simp [rowS] at c2))
    | (go_at_call 16; go_must (refine (PI.out _ _ hb1 hat1).mono ?_; rintro e u ⟨rfl, hb⟩; have hu := hb1.trans (hb.mono hb1.size))))
  go_ret
  exact ⟨rfl, hu⟩
set_option maxRecDepth 100000 in
set_option maxHeartbeats 800000 in
theorem Find {B S c : Nat} {w : World} {window most last : Int} {p : Option Addr} {ks : List K} (h : Has B w S window most last p c ks) (host : ByteArray) (fin now : Int) (hnow : i64 now) (hno : ∀ k ∈ ks, oldB now window k = false) :
    Calls Try.prog 9 #[.pointer (some ⟨S, 0, none⟩), .string host, .int .u32 fin, .int .i64 now] w (FindIs w (findK host fin ks)) := by
  have PA := Lib.hid (age ks B now window most last p c S w h.own h.ok hnow h.win h.row hno)
  have PF := Lib.hid (fun u (hb : Below w.heap.size w u) => find (h.below hb) host fin)
  have H := Lib.hid h
  obtain ⟨i, hi⟩ : ∃ i, place (hitB host fin) ks = i := ⟨_, rfl⟩
  have hle := place_le (hitB host fin) ks
  rw [hi] at hle
  obtain ⟨pp, cc, ee, q1, q2⟩ := h.own.shape
  cases ee
  have hmax : ks.length ≤ 9223372036854775807 := by unfold maxLen at q2; omega
  by_cases hlt : i < ks.length
  · have e1 : posI (hitB host fin) ks = i := by unfold posI; rw [hi, if_pos hlt]
    rw [e1] at PF
    obtain ⟨x, d, hx1, hx2, hrd, _, b, off, c', hv, hltb, hra⟩ := h.own.elem i hlt
    cases hv
    have HF := Lib.hid (show findK host fin ks = (x.bytes, true) by unfold findK; rw [hi, hx1])
    have hlen := (h.ok x hx2).2.2
    have CE := Lib.hid (fun u (hb : Below w.heap.size w u) => (hb.cell (p := ⟨b, off + i * 4 + 3, none⟩) hltb).trans (hra 3 _ rfl))
    obtain ⟨pd, cd, rfl, _⟩ := id hrd
    have HRD := Lib.hid hrd
    have hrow := h.row
    obtain ⟨n, hnn⟩ : ∃ n, ks.length = n := ⟨_, rfl⟩
    rw [hnn] at hrow hlt hmax
    clear h hnow hno hi hx1 hra hrd q1 q2 e1
    go_enter Try.func9, Try.ntmps9
    go_wp2_with (first
      | (go_at_call 11; go_must (refine PA.out.mono ?_; rintro e u1 ⟨rfl, hu⟩))
      | (go_at_call 12; go_must (refine (PF.out _ hu).mono ?_; rintro e u2 ⟨rfl, hb⟩; have hu2 := hu.trans (hb.mono hu.size); clear hu; have c2 := (hrow.ext hu2).cell 2; simp [rowS] at c2; have ce := CE.out _ hu2))
      | (go_at_call 13; go_must (refine (Wire.clone _ _ _ (HRD.out.below hu2) (by omega)).mono ?_; rintro e u3 ⟨v3, rfl, hr3, hb3⟩)))
    go_ret2
    exact ⟨_, by rw [HF.out] <;> rfl, by rw [HF.out]; exact hr3.mono hu2.size, hu2.trans (hb3.mono hu2.size)⟩
  · have e1 : posI (hitB host fin) ks = -1 := by unfold posI; rw [hi, if_neg hlt]
    rw [e1] at PF
    have HF := Lib.hid (show findK host fin ks = ([], false) by unfold findK; rw [hi, List.getElem?_eq_none (by omega)])
    clear h hnow hno hi q1 q2 e1
    go_enter Try.func9, Try.ntmps9
    go_wp2_with (first
      | (go_at_call 11; go_must (refine PA.out.mono ?_; rintro e u1 ⟨rfl, hu⟩))
      | (go_at_call 12; go_must (refine (PF.out _ hu).mono ?_; rintro e u2 ⟨rfl, hb⟩; have hu2 := hu.trans (hb.mono hu.size); clear hu)))
    go_ret2
    exact ⟨_, by rw [HF.out] <;> rfl, by rw [HF.out]; exact World.ownsRow_nil _ _ _ _, hu2⟩
set_option maxRecDepth 100000 in
theorem FindNil (host : ByteArray) (fin now : Int) (w : World) : Calls Try.prog 9 #[.pointer none, .string host, .int .u32 fin, .int .i64 now] w fun e w' => e = .returned (.tuple #[.slice none 0 0, .bool false]) ∧ w' = w := by
  go_enter Try.func9, Try.ntmps9
  go_wp2_with fail
  go_ret2
  exact ⟨rfl, rfl⟩
set_option maxRecDepth 100000 in
theorem Len {B S c : Nat} {w : World} {window most last : Int} {p : Option Addr} {ks : List K} (h : Has B w S window most last p c ks) (now : Int) (hnow : i64 now) (hno : ∀ k ∈ ks, oldB now window k = false) :
    Calls Try.prog 10 #[.pointer (some ⟨S, 0, none⟩), .int .i64 now] w fun e w' => e = .returned (.int .i64 ks.length) ∧ Below w.heap.size w w' := by
  have PA := Lib.hid (age ks B now window most last p c S w h.own h.ok hnow h.win h.row hno)
  have hrow := h.row
  obtain ⟨n, hnn⟩ : ∃ n, ks.length = n := ⟨_, rfl⟩
  rw [hnn] at hrow ⊢
  clear h hnow hno hnn
  go_enter Try.func10, Try.ntmps10
  go_wp2_with (go_at_call 11; go_must (refine PA.out.mono ?_; rintro e u1 ⟨rfl, hu⟩; have c2 := (hrow.ext hu).cell 2; simp [rowS] at c2))
  go_ret
  exact ⟨rfl, hu⟩
set_option maxRecDepth 100000 in
theorem LenNil (now : Int) (w : World) : Calls Try.prog 10 #[.pointer none, .int .i64 now] w fun e w' => e = .returned (.int .i64 0) ∧ w' = w := by
  go_enter Try.func10, Try.ntmps10
  go_wp2_with fail
  go_ret
  exact ⟨rfl, rfl⟩
set_option maxRecDepth 100000 in
theorem PutNil (host : ByteArray) (fin now : Int) (v : Value) (w : World) : Calls Try.prog 8 #[.pointer none, .string host, .int .u32 fin, v, .int .i64 now] w fun e w' => e = .returned (.int .i64 1) ∧ w' = w := by
  go_enter Try.func8, Try.ntmps8
  go_wp2_with fail
  go_ret
  exact ⟨rfl, rfl⟩
set_option maxRecDepth 100000 in
theorem New (window most : Int) (w : World) (hw : 1 ≤ window ∧ window ≤ 1048576) (hm : 1 ≤ most ∧ most ≤ 256) :
    Calls Try.prog 6 #[.int .i64 window, .int .i64 most] w fun e w' => e = .returned (.tuple #[.pointer (some ⟨w.heap.size, 0, none⟩), .int .i64 0]) ∧ (∀ B, Has B w' w.heap.size window most 0 none 0 []) ∧ Below w.heap.size w w' ∧ w'.heap.size = w.heap.size + 1 := by
  go_enter Try.func6, Try.ntmps6
  go_wp2_with ((with_reducible refine wpl_boxAt rfl 39 (.tmp 22) rfl (rowS window most 0 (.slice none 0 0)) ?_ ?_); rfl; go_must (intro w1 hat1 hb1 hs1))
  go_ret2
  exact ⟨rfl, fun B => ⟨hat1, OwnK.nil _ _, (fun k hk => (by cases hk)), (by omega)⟩, hb1, hs1⟩
end Go.Proofs.Ytmbhiajhlfjknaa.Dup
