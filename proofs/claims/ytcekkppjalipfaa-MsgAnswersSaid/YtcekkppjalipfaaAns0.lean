/-
  Answers: what they are (plain); bytes of a text; a list that is written out; the contract of Own.
-/
import Derived.Test.YtcekkppjalipfaaFind2
import Derived.Lib.ConvBytes
namespace Go.Proofs.Ytcekkppjalipfaa.Avp
open Go.RowKit Mem Cells Avps Wire Ops
set_option linter.unusedVariables false
set_option linter.unusedSimpArgs false

/-- A text's bytes. -/
def bs (s : ByteArray) : List Int := s.data.toList.map fun b => (b.toNat : Int)
theorem bs_length (s : ByteArray) : (bs s).length = s.size := by simp [bs]
theorem bs_wf (s : ByteArray) : ∀ x ∈ bs s, 0 ≤ x ∧ x ≤ 255 := by
  intro x hx
  obtain ⟨b, _, rfl⟩ := List.mem_map.1 hx
  have := b.toNat_lt
  omega
def clampN (code : Int) : Int := if 0 ≤ code ∧ code ≤ 4294967295 then code else 0
def a268 (n : Int) : A := ⟨268, 0, true, false, bytesOf n 4 4⟩
def a264 (s : ByteArray) : A := ⟨264, 0, true, false, bs s⟩
def a296 (s : ByteArray) : A := ⟨296, 0, true, false, bs s⟩
def ansL (n : Int) (h r : ByteArray) : List A := [a268 n] ++ [a264 h, a296 r]
def head0 (m : M) (fl : Bool) : M := ⟨false, m.prox, fl, false, m.code, m.app, m.hop, m.fin, []⟩
def ansOf (m : M) (code : Int) (h r : ByteArray) (more : List A) : M := { head0 m (decide (3000 ≤ code ∧ code ≤ 3999)) with avps := ansL (clampN code) h r ++ more }
theorem clamp_bd (code : Int) : 0 ≤ clampN code ∧ clampN code ≤ 4294967295 := by unfold clampN; split <;> omega
theorem ansL_ok (n : Int) (h r : ByteArray) : ∀ a ∈ ansL n h r, a.ok := by
  intro a ha
  simp [ansL] at ha
  rcases ha with rfl | rfl | rfl
  · exact ⟨(by decide : (0 : Int) ≤ 268 ∧ (268 : Int) ≤ 4294967295), (by decide : (0 : Int) ≤ 0 ∧ (0 : Int) ≤ 4294967295), bytesOf_wf n 4 4⟩
  · exact ⟨(by decide : (0 : Int) ≤ 264 ∧ (264 : Int) ≤ 4294967295), (by decide : (0 : Int) ≤ 0 ∧ (0 : Int) ≤ 4294967295), bs_wf h⟩
  · exact ⟨(by decide : (0 : Int) ≤ 296 ∧ (296 : Int) ≤ 4294967295), (by decide : (0 : Int) ≤ 0 ∧ (0 : Int) ≤ 4294967295), bs_wf r⟩
theorem code_ans (m : M) (code : Int) (h r : ByteArray) (more : List A) : codeOf (ansOf m code h r more).avps = clampN code := by
  have e : findOf 268 (ansOf m code h r more).avps = (bytesOf (clampN code) 4 4, true) := by
    unfold findOf place
    have : (ansOf m code h r more).avps = a268 (clampN code) :: ([a264 h, a296 r] ++ more) := by simp [ansOf, ansL]
    rw [this, List.findIdx_cons]
    simp [hit, a268]
  unfold codeOf
  rw [e]
  have hl : (bytesOf (clampN code) 4 4).length = 4 := by rw [bytesOf_length]
  rw [if_pos hl]
  have := getN_at [] (bytesOf (clampN code) 4 4) [] 0 4 rfl (by rw [hl]; rfl) (by omega)
  simp at this
  rw [this, bytes_num4 _ (clamp_bd code)]

section
variable {P : Program} {w : World} {ops : Array Oper} {rest : List Oper} {o : Oper} {a : Act} {Q : Exit → Act → World → Prop}
/-- A list that is written out. -/
theorem wpl_buildS (hgd : o.guard = none) (S n : Nat) (parts : Array (Nat × Operand)) (ho : o.op = .buildSlice S n parts) (vs : Array (Nat × Value)) (hx : parts.map (fun (i, x) => (i, a.eval x)) = vs) (e : TypeId) (cells : Array Value)
    (hrun : ∀ w : World, (Instr.buildSlice S n vs).run P w = .ok (.slice (some ⟨w.heap.size, 0, none⟩) n n) (w.alloc (.cells cells e)))
    (h : ∀ w', At w' w.heap.size e cells → Below w.heap.size w w' → w'.heap.size = w.heap.size + 1 → wpList P ops Q rest (a.put o.dst (.slice (some ⟨w.heap.size, 0, none⟩) n n)) w') : wpList P ops Q (o :: rest) a w := by
  refine wpList_plain hgd fun K' hK => ?_
  unfold Oper.wp execOp
  simp only [ho, hx, Sem.run_bind, hrun w, Result.andThen_ok]
  exact hK _ _ (h _ (At.new w e cells) ((Below.refl _ _).alloc (Nat.le_refl _) _) (by simp))
/-- '[]byte(s)'. -/
theorem wpl_bytesS (hgd : o.guard = none) (src dst : TypeId) (x : Operand) (ho : o.op = .convert src dst x) (s : ByteArray) (e : TypeId) (hs : P.underlying src = some .string) (hd : P.underlying dst = some (.slice e)) (he : P.underlying e = some (.int .u8)) (hx : a.eval x = .string s) (hm : s.size ≤ maxLen)
    (h : ∀ c w', Reads .u8 w' (.slice (some ⟨w.heap.size, 0, none⟩) (bs s).length c) (bs s) → Below w.heap.size w w' → w'.heap.size = w.heap.size + 1 → wpList P ops Q rest (a.put o.dst (.slice (some ⟨w.heap.size, 0, none⟩) (bs s).length c)) w') : wpList P ops Q (o :: rest) a w := by
  refine wpList_plain hgd fun K' hK => ?_
  unfold Oper.wp execOp
  simp only [ho, hx, Sem.run_bind, Lib.run_convert_string_bytes w src dst e s hs hd he, Result.andThen_ok]
  rw [← bs_length]
  refine hK _ _ (h _ _ ?_ ?_ (Lib.bytesWorld_size w e s))
  · refine ⟨_, _, rfl, ?_, grownCap_le_maxLen _ _ _ _ (by rw [bs_length]; exact hm), (fun h => by cases h), fun _ => ⟨w.heap.size, 0, rfl, by rw [Lib.bytesWorld_size]; omega, fun i hi => ?_⟩⟩
    · exact grownCap_ge _ _ _ _
    · rw [Nat.zero_add, Lib.bytesWorld_cell w e s i (by rwa [bs_length] at hi)]
      rw [bs_length] at hi
      have hi' : i < s.data.toList.length := by simpa using hi
      simp [bs, List.getD, hi]
  · refine ⟨?_, ?_, ?_, by rw [Lib.bytesWorld_size]; omega, fun j hj => Lib.bytesWorld_at_old w e s j hj⟩
    · rfl
    · rfl
    · rfl
end
theorem ownL_of_at {T B g : Nat} {w : World} (zs : List (A × Value)) (h : At w g T (flat zs).toArray) (hB : B ≤ g) (hl : zs.length ≤ maxLen) (hd : ∀ z ∈ zs, Reads .u8 w z.2 z.1.data ∧ (0 < z.1.data.length → z.2.ownBlock ≠ some g)) :
    OwnL T B w (.slice (some ⟨g, 0, none⟩) zs.length zs.length) (zs.map Prod.fst) := by
  refine ⟨zs, rfl, fun z hz => ⟨(hd z hz).1, fun h0 q hq => ?_⟩, ?_⟩
  · cases hq
    exact (hd z hz).2 h0
  · rw [List.length_map]
    exact ⟨flat_length zs, .inr ⟨g, zs.length, _, rfl, hB, h, Nat.le_refl _, hl, by simp [flat_length], by rw [List.take_of_length_le (by simp [flat_length])]⟩⟩
theorem build2 (A1 A2 : A) (d1 d2 : Value) (w : World) : (Instr.buildSlice 23 2 #[(0, .agg (row A1 d1).toArray), (1, .agg (row A2 d2).toArray)]).run Try.prog w = .ok (.slice (some ⟨w.heap.size, 0, none⟩) 2 2) (w.alloc (.cells (flat [(A1, d1), (A2, d2)]).toArray 60)) := by
  kernel_rfl
/-- What Own answers. -/
def Own2 (w : World) (h r : ByteArray) (e : Ending) (u : World) : Prop :=
  ∃ g d1 d2, e = .returned (.slice (some ⟨g, 0, none⟩) 2 2) ∧ At u g 60 (flat [(a264 h, d1), (a296 r, d2)]).toArray ∧ Reads .u8 u d1 (bs h) ∧ Reads .u8 u d2 (bs r) ∧ (∀ k, d1.ownBlock = some k → w.heap.size ≤ k) ∧ (∀ k, d2.ownBlock = some k → w.heap.size ≤ k) ∧ Below w.heap.size w u
set_option maxRecDepth 100000 in
set_option maxHeartbeats 800000 in
theorem own2 (h r : ByteArray) (w : World) (hh : h.size ≤ maxLen) (hr : r.size ≤ maxLen) : Calls Try.prog 40 #[.string h, .string r] w (Own2 w h r) := by
  obtain ⟨n1, hn1⟩ : ∃ n, (bs h).length = n := ⟨_, rfl⟩
  obtain ⟨n2, hn2⟩ : ∃ n, (bs r).length = n := ⟨_, rfl⟩
  have N1 := Lib.hid hn1
  have N2 := Lib.hid hn2
  clear hn1 hn2
  go_enter Try.func40, Try.ntmps40
  go_wp2_with (first
    | ((with_reducible refine wpl_bytesS rfl 9 26 (.tmp 5) rfl h 5 Try.underlying9 Try.underlying26 Try.underlying5 ?_ hh ?_); rfl; go_must (intro c1 w1 hd1 hb1 hs1; have T1 := Lib.hid hs1; clear hs1; rw [N1.out] at hd1 ⊢))
    | ((with_reducible refine wpl_bytesS rfl 9 26 (.tmp 8) rfl r 5 Try.underlying9 Try.underlying26 Try.underlying5 ?_ hr ?_); rfl; go_must (intro c2 w2 hd2 hb2 hs2; have T2 := Lib.hid hs2; clear hs2; rw [N2.out] at hd2 ⊢))
    | ((with_reducible refine wpl_buildS rfl 23 2 #[(0, .tmp 7), (1, .tmp 10)] rfl #[(0, .agg (row (a264 h) (.slice (some ⟨w.heap.size, 0, none⟩) n1 c1)).toArray), (1, .agg (row (a296 r) (.slice (some ⟨w1.heap.size, 0, none⟩) n2 c2)).toArray)] ?_ 60 (flat [(a264 h, .slice (some ⟨w.heap.size, 0, none⟩) n1 c1), (a296 r, .slice (some ⟨w1.heap.size, 0, none⟩) n2 c2)]).toArray (build2 _ _ _ _) ?_); (simp [Act.eval, row, a264, a296]); go_must (intro w3 hat hb3 hs3; clear hs3)))
  go_ret
  have h12 := hb1.trans (hb2.mono hb1.size)
  have h13 := h12.trans (hb3.mono h12.size)
  exact ⟨_, _, _, rfl, hat, (hd1.below hb2).below hb3, hd2.below hb3, fun k hk => by cases hk; exact Nat.le_refl _, fun k hk => by cases hk; exact hb1.size, h13⟩
end Go.Proofs.Ytcekkppjalipfaa.Avp
