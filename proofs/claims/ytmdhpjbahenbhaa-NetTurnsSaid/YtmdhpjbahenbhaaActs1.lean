/-
  The law NetActs: the walk.
-/
import Derived.Test.YtmdhpjbahenbhaaActs
namespace Go.Proofs.Ytmdhpjbahenbhaa.Net
open Go.RowKit Mem Cells Ops Go.Maps
set_option linter.unusedVariables false
set_option linter.unusedSimpArgs false

def zeroNet (hosts : Int) : Array Value := (.int .i64 hosts :: .slice none 0 0 :: List.replicate 128 (.bool false)).toArray
section
variable {P : Program} {w : World} {ops : Array Oper} {rest : List Oper} {o : Oper} {a : Act} {Q : Exit → Act → World → Prop}
/-- A struct whose value is known. -/
theorem wpl_buildV (hgd : o.guard = none) (T : TypeId) (ps : Array (Nat × Operand)) (ho : o.op = .build T ps) (vs : Array (Nat × Value)) (hx : ps.map (fun (i, x) => (i, a.eval x)) = vs) (r : Value) (hrun : (Instr.build T vs).run P w = .ok r w)
    (h : wpList P ops Q rest (a.put o.dst r) w) : wpList P ops Q (o :: rest) a w := by
  refine wpList_plain hgd fun K hK => ?_
  unfold Oper.wp execOp
  simp only [ho, hx, Sem.run_bind, Sem.run_pure, Result.andThen_ok, hrun]
  exact hK _ _ h
end
set_option maxRecDepth 20000 in
theorem run_zeroNet (hosts : Int) (w : World) : (Instr.build 49 #[(0, .int .i64 hosts)]).run Try.prog w = .ok (.agg (zeroNet hosts)) w := by kernel_rfl
set_option maxRecDepth 20000 in
theorem zeroNet_size (hosts : Int) : (zeroNet hosts).size = 130 := by
  unfold zeroNet
  rw [List.size_toArray, List.length_cons, List.length_cons, List.length_replicate]
set_option maxRecDepth 20000 in
/-- The reference's net, new. -/
theorem rNew {w : World} {g : Nat} {hosts : Int} (hat : At w g 49 (zeroNet hosts)) (h : 1 ≤ hosts ∧ hosts ≤ 8) : RNet (fun k => k = g) w g hosts [] (fun _ _ _ => false) := by
  refine ⟨[], none, 0, 0, _, hat, zeroNet_size _, rfl, rfl, fun f t q hf ht hq => ?_, rfl, rfl, rfl, OwnF.nil _ _, ⟨by simp, fun f hf => by cases hf⟩, h⟩
  simp only [zeroNet, List.getElem?_toArray]
  rw [show 2 + f * 16 + t * 2 + q = (f * 16 + t * 2 + q) + 2 from by omega]
  simp only [List.getElem?_cons_succ]
  rw [List.getElem?_replicate, if_pos (by omega)]
set_option maxRecDepth 100000 in
set_option maxHeartbeats 800000 in
theorem actsBad (hosts : Int) (p : Option Addr) (l c : Nat) (w : World) (hl : l ≤ c ∧ c ≤ maxLen) (h : hosts < 1 ∨ 8 < hosts) :
    Calls Try.prog 5 #[.int .i64 hosts, .slice p l c] w fun e w' => e = .returned (.bool true) ∧ Below w.heap.size w w' := by
  have PN := Lib.hid (fun u => NewBad hosts u h)
  have hl63 : l ≤ 9223372036854775807 := by unfold maxLen at hl; omega
  clear hl
  have h' : hosts < 1 ∨ (1 ≤ hosts ∧ 8 < hosts) := by omega
  clear h
  have h' : hosts < 1 ∨ (1 ≤ hosts ∧ decide (hosts ≤ 8) = false) := h'.imp id (fun h => ⟨h.1, decide_eq_false (by omega)⟩)
  rcases h' with h1 | ⟨h1, h2⟩
  all_goals
    by_cases hl0 : 0 < l
    all_goals
      go_enter Try.func5, Try.ntmps5
      go_wp2_with (first
        | (go_at_call 8; go_must (refine (PN.out _).mono ?_; rintro e w1 ⟨rfl, rfl⟩))
        | (go_at_call 9; go_must (refine (answers _).mono ?_; rintro e w2 ⟨rfl, hb2⟩))
        | ((with_reducible refine wpl_buildV rfl 49 #[(0, .tmp 34)] rfl #[(0, .int .i64 hosts)] ?_ (.agg (zeroNet hosts)) (run_zeroNet _ _) ?_); go_must (simp [Act.eval]))
        | ((with_reducible refine wpl_boxAt rfl 49 (.tmp 35) rfl (zeroNet hosts) ?_ ?_); rfl; go_must (intro w3 hat3 hb3 hs3; have HB3 := Lib.hid (hb2.trans (hb3.mono hb2.size)); clear hat3 hb3 hs3 hb2)))
      go_loop [8] (fun j => j = .int .i64 0) (fun _ => 0)
      case atStart => rfl
      case round =>
        obtain rfl := hrel
        go_wp2_with fail
        go_ret
        exact ⟨rfl, HB3.out⟩
/-- Both nets, new. -/
theorem two_new {w w1 w2 w3 : World} {S g : Nat} {hosts : Int} (hN : Net (more (fun _ => False) w w1) w1 S hosts [] (fun _ _ _ => false) 0) (hb1 : Below w.heap.size w w1) (hb2 : Below w1.heap.size w1 w2) (hg : g = w2.heap.size) (hb3 : Below w2.heap.size w2 w3) (hat : At w3 g 49 (zeroNet hosts)) (h : 1 ≤ hosts ∧ hosts ≤ 8) :
    Two (fun k => k < w.heap.size) w3 S g hosts [] [] (fun _ _ _ => false) (fun _ _ _ => false) 0 ∧ Below w.heap.size w w3 := by
  have s1 := hb1.size
  have s2 := hb2.size
  have s3 := hb3.size
  have hb23 : Below w1.heap.size w1 w3 := hb2.trans (hb3.mono s2)
  refine ⟨⟨_, _, hN.below hb23, rNew hat h, ?_, ?_, ?_, fun k hk => by omega⟩, hb1.trans (hb23.mono s1)⟩
  · rintro k (hk | hk) e
    · exact hk
    · omega
  · rintro k (hk | hk)
    · exact hk.elim
    · exact ⟨by omega, by omega⟩
  · rintro k rfl
    exact ⟨by omega, hat.lt⟩
theorem but_below {B : Nat} {w w' : World} (h : ButX (fun k => ¬ k < B) w w') (hB : B ≤ w.heap.size) : Below B w w' := h.below (fun k hk => by omega) hB
theorem below_but {B : Nat} {w w' : World} (h : Below B w w') (hs : w.heap.size ≤ w'.heap.size) : ButX (fun k => ¬ k < B) w w' := ⟨h.os, h.tape, h.output, hs, fun k _ hn => h.block k (by omega)⟩
set_option maxRecDepth 100000 in
set_option maxHeartbeats 1600000 in
theorem actsOk (hosts : Int) (p : Option Addr) (l c : Nat) (zs : List (A × Value)) (w : World) (hA : Open.ReadsA w p l c zs) (h : 1 ≤ hosts ∧ hosts ≤ 8) :
    Calls Try.prog 5 #[.int .i64 hosts, .slice p l c] w fun e w' => e = .returned (.bool true) ∧ Below w.heap.size w w' := by
  have PN := Lib.hid (New hosts w h)
  have HA := Lib.hid hA
  have hl63 : l ≤ 9223372036854775807 := by have := hA.le; unfold maxLen at this; omega
  obtain ⟨h1, h2⟩ := h
  have HH := Lib.hid (And.intro h1 h2)
  clear hA
  go_enter Try.func5, Try.ntmps5
  go_wp2_with (first
    | (go_at_call 8; go_must (refine PN.out.mono ?_; rintro e w1 ⟨rfl, hN1, hb1⟩; have HN1 := Lib.hid (And.intro hN1 hb1); clear hN1 hb1))
    | (go_at_call 9; go_must (refine (answers _).mono ?_; rintro e w2 ⟨rfl, hb2⟩; have HB2 := Lib.hid hb2; clear hb2))
    | ((with_reducible refine wpl_buildV rfl 49 #[(0, .tmp 34)] rfl #[(0, .int .i64 hosts)] ?_ (.agg (zeroNet hosts)) (run_zeroNet _ _) ?_); go_must (simp [Act.eval]))
    | ((with_reducible refine wpl_boxAt rfl 49 (.tmp 35) rfl (zeroNet hosts) ?_ ?_); rfl; go_must (intro w3 hat3 hb3 hs3; have HT := Lib.hid (two_new HN1.out.1 HN1.out.2 HB2.out rfl hb3 hat3 HH.out); clear hat3 hb3 hs3 HN1 HB2)))
  have HS := Lib.hid HT.out.2.size
  obtain ⟨B, hB⟩ : ∃ B, w.heap.size = B := ⟨_, rfl⟩
  obtain ⟨S, hS⟩ : ∃ S, w.heap.size + 1 = S := ⟨_, rfl⟩
  obtain ⟨g, hg⟩ : ∃ g, w2.heap.size = g := ⟨_, rfl⟩
  rw [hg, hS] at HT
  rw [hg, hS]
  clear hS hg hB B
  go_loopw [8] (fun j wr => ∃ (i : Nat) (fs : List F) (cut : Int → Int → Int → Bool) (n : Nat), j = .int .i64 i ∧ i ≤ l ∧ i ≤ 200 ∧ n ≤ i ∧ Two (fun k => k < w.heap.size) wr S g hosts fs fs cut cut n ∧ Below w.heap.size w wr) (fun j _ => 200 - (intOf j).toNat)
  case atStart => exact ⟨0, [], _, 0, rfl, by omega, by omega, by omega, HT.out.1, HT.out.2⟩
  case round =>
    obtain ⟨i, fs, cut, n, rfl, hi, hi2, hn, hT, hb⟩ := hrel
    by_cases hlt : i < l ∧ i < 200
    · obtain ⟨h3, h4⟩ := hlt
      obtain ⟨z, hz⟩ : ∃ z, zs[i]? = some z := ⟨_, List.getElem?_eq_getElem (by rw [HA.out.len]; exact h3)⟩
      obtain ⟨b, off, rfl, hbl, hra, hok, hone, hrd⟩ := HA.out.at_ i z hz
      obtain ⟨a0, dv⟩ := z
      have hsz := hb.size
      have HRA := Lib.hid (show wr.rangeAt b (off + i * 10) (rowA a0 dv).toList from range_below hra hb hbl)
      have PA := Lib.hid (actX hT a0 dv hone (fun x hx => hrd.below (hb.trans ((but_below hx hsz).mono (Nat.le_refl _)))) hok (by omega))
      have h3' : (i : Int) < l := by omega
      have h4' : (i : Int) < 200 := by omega
      have HB := Lib.hid (And.intro hb hn)
      clear hT hb hn hra hok hone hrd hbl hz hsz
      go_wp2_with (first
        | ((with_reducible refine wpl_loadE rfl 52 (.tmp 55) rfl b (off + i * 10) ?_ (rowA a0 dv) _ HRA.out Try.underlying52 rfl (by kernel_rfl) ?_); rfl; clear HRA)
        | (go_at_call 16; go_must (refine PA.out.mono ?_; clear PA; rintro e w5 ⟨rfl, hT5, hb5⟩; have HT5 := Lib.hid (And.intro hT5 hb5); clear hT5 hb5))
        | (go_at_call 17; go_must (refine (alikeX HT5.out.1).mono ?_; rintro e w6 ⟨rfl, hb6⟩; have HB6 := Lib.hid hb6; clear hb6)))
      go_roundw
      case rel =>
        have hbw := HB.out.1
        have hb5 := but_below HT5.out.2 hbw.size
        exact ⟨i + 1, _, _, _, by go_num, by omega, by omega, by have := HB.out.2; unfold actN; split <;> (try split) <;> omega, HT5.out.1.below HB6.out, (hbw.trans hb5).trans (HB6.out.mono (Nat.le_trans hbw.size hb5.size))⟩
      case measure => simp [intOf]; omega
    · have HB := Lib.hid hb
      have hlt' : ¬ i < l ∨ (i < l ∧ ¬ i < 200) := by omega
      clear hlt hT hb
      rcases hlt' with h3 | ⟨h3, h4⟩
      · obtain rfl : i = l := by omega
        clear h3
        go_wp2_with fail
        go_ret
        exact ⟨rfl, HB.out⟩
      · obtain rfl : i = 200 := by omega
        clear h4
        go_wp2_with fail
        go_ret
        exact ⟨rfl, HB.out⟩
theorem acts_ (hosts : Int) (p : Option Addr) (l c : Nat) (zs : List (A × Value)) (w : World) (hA : Open.ReadsA w p l c zs) :
    Calls Try.prog 5 #[.int .i64 hosts, .slice p l c] w fun e w' => e = .returned (.bool true) ∧ Below w.heap.size w w' := by
  by_cases h : 1 ≤ hosts ∧ hosts ≤ 8
  · exact actsOk hosts p l c zs w hA h
  · exact actsBad hosts p l c w hA.le (by omega)
end Go.Proofs.Ytmdhpjbahenbhaa.Net
