/-
  Contract: answers; the law DupNil: the walk.
-/
import Derived.Test.YtmbhiajhlfjknaaDup4
import Derived.Lib.SlBytesConst
namespace Go.Proofs.Ytmbhiajhlfjknaa.Dup
open Go.RowKit Mem Cells Ops
set_option linter.unusedVariables false
set_option linter.unusedSimpArgs false

/-- A store into a block that is older than all of the list's. -/
theorem OwnK.keptLt {B : Nat} {w w' : World} {v : Value} {ks : List K} {g : Nat} (h : OwnK B w v ks) (hg : w.grownBy w' (some g)) (hlt : g < B) : OwnK B w' v ks := by
  obtain ⟨zs, p, c, rfl, h2, h3, h4, h5, h6⟩ := h
  refine ⟨zs, p, c, rfl, h2, h3, h4, fun z hz => ⟨reads_grown (h5 z hz).1 hg (fun h0 q hq e => by cases hq; have := (h5 z hz).2 h0 _ e; omega), (h5 z hz).2⟩, ?_⟩
  rcases h6 with h6 | ⟨g', off, cur, rfl, hB, hat', r⟩
  · exact .inl h6
  · exact .inr ⟨g', off, cur, rfl, hB, hat'.grown hg (by omega), r⟩
theorem Has.keptLt {B : Nat} {w w' : World} {S : Nat} {window most last : Int} {p : Option Addr} {c : Nat} {ks : List K} {g : Nat} (h : Has B w S window most last p c ks) (hg : w.grownBy w' (some g)) (hlt : g < B) (hne : S ≠ g) : Has B w' S window most last p c ks :=
  ⟨h.row.grown hg hne, h.own.keptLt hg hlt, h.ok, h.win⟩
theorem old_at (now window : Int) (k : K) (h : now ≤ k.at_ ∨ now - k.at_ ≤ window) : oldB now window k = false := by
  unfold oldB
  apply decide_eq_false
  omega
set_option maxRecDepth 100000 in
set_option maxHeartbeats 800000 in
theorem answers (w : World) : Calls Try.prog 7 #[] w fun e w' => e = .returned (.bool true) ∧ Below w.heap.size w w' := by
  have PN := Lib.hid (New 10 2 w (by omega) (by omega))
  go_enter Try.func7, Try.ntmps7
  go_wp2_with (first
    | (go_at_call 6; go_must (refine PN.out.mono ?_; rintro e w1 ⟨rfl, hH, hb1, hs1⟩; have kc := Go.Lib.run_convert_bytes_const (P := Try.prog) w1 24 5 #[.int .u8 120] 1 1 Try.underlying24 Try.underlying5; simp only [List.size_toArray, List.length_cons, List.length_nil, Nat.zero_add, Nat.reduceAdd] at kc; have hz := (Below.refl w1.heap.size w1).alloc (Nat.le_refl _) (.cells #[.int .u8 120] 5 (1, 2)); have hH1 := (hH 0).below hz; have hrd : Reads .u8 (w1.alloc (.cells #[.int .u8 120] 5 (1, 2))) (.slice (some ⟨w1.heap.size, 0, none⟩) 1 1) [120] := Reads.alloc .u8 w1 [120] 5 (1, 2) 1 (Nat.le_refl _) (by simp [maxLen]); have HU := Lib.hid (hb1.trans (hz.mono hb1.size)); clear hz hH hb1 hs1))
    | (go_at_call 8; go_must (refine (putFirst hH1 _ 1 0 _ [120] hrd (by simp) (by omega) (by omega) (by omega) (by omega)).mono ?_; clear hrd; rintro e u2 ⟨rfl, ⟨p2, c2, hH2⟩, hg⟩; have hu2 := below_grown HU.out hg HU.out.size (Nat.le_refl _); clear hH1 hg))
    | (go_at_call 10; go_must (refine (Len hH2 5 ⟨by omega, by omega⟩ (fun k hk => (by rw [List.mem_singleton] at hk; subst hk; exact old_at _ _ _ (.inr (by simp))))).mono ?_; rintro e u3 ⟨rfl, hb⟩; have hu3 := hu2.trans (hb.mono hu2.size))))
  go_ret
  exact ⟨rfl, hu3⟩
set_option maxRecDepth 100000 in
set_option maxHeartbeats 1600000 in
theorem nil_ (host : ByteArray) (fin c : Int) (w : World) (hf : 0 ≤ fin ∧ fin ≤ 4294967295) (hc : 0 ≤ c ∧ c ≤ 255) : Calls Try.prog 5 #[.string host, .int .u32 fin, .int .u8 c] w fun e w' => e = .returned (.bool true) ∧ Below w.heap.size w w' := by
  have PN := Lib.hid (New 5 5 w (by omega) (by omega))
  have FK := Lib.hid (show findK host fin [⟨host, fin, 1, [c]⟩] = ([c], true) by
    have : place (hitB host fin) [⟨host, fin, 1, [c]⟩] = 0 := by unfold place; simp [List.findIdx_cons, hitB]
    unfold findK
    rw [this]
    rfl)
  have OLD := Lib.hid (show ∀ k ∈ [(⟨host, fin, 1, [c]⟩ : K)], oldB 1 5 k = false from fun k hk => by rw [List.mem_singleton] at hk; subst hk; exact old_at _ _ _ (.inl (by simp)))
  have S1 := Lib.hid (rfl : w = w)
  have hcc : (c == c) = true := by simp
  go_enter Try.func5, Try.ntmps5
  go_upto_region 6 with (first
    | (go_at_call 9; go_must (refine (FindNil _ _ _ _).mono ?_; rintro e w0 ⟨rfl, rfl⟩))
    | (go_at_call 6; go_must (refine PN.out.mono ?_; rintro e w1 ⟨rfl, hH, hb1, hs1⟩; clear hs1))
    | (go_at_call 7; go_must (refine (answers _).mono ?_; rintro e w2 ⟨rfl, hb⟩; have hu := hb1.trans (hb.mono hb1.size); have hH2 := (hH 0).below hb; clear hb1 hH hb))
    | (go_at_call 8; go_must (refine (PutNil _ _ _ _ _).mono ?_; rintro e w3 ⟨rfl, rfl⟩))
    | (go_at_call 10; go_must (refine (LenNil _ _).mono ?_; rintro e w4 ⟨rfl, rfl⟩)))
  have lS := hH2.row.lt
  go_wp2_with (first
    | (go_at_call 8; go_must (have hz := (Below.refl w4.heap.size w4).alloc (Nat.le_refl _) (.cells #[.int .u8 c] 5); have hH3 := hH2.below hz; have hrd := Reads.one .u8 w4 c 5; have hat := At.new w4 5 #[.int .u8 c]; have hsz : (w4.alloc (.cells #[.int .u8 c] 5)).heap.size = w4.heap.size + 1 := (by simp); refine (putFirst hH3 host fin 1 _ [c] hrd (by simp) hf (by omega) (by omega) (by omega)).mono ?_; rintro e w5 ⟨rfl, ⟨p5, c5, hH5⟩, hg⟩; have huz := hu.trans (hz.mono hu.size); have hu5 := below_grown huz hg huz.size (Nat.le_refl _); have hatI := hat.grown hg (by omega); rw [hsz] at hH5; clear hz hH3 hrd hat hg huz hsz hH2 hu))
    | ((with_reducible refine wpl_storeC rfl 5 (.tmp 63) (.tmp 62) rfl rfl w4.heap.size 0 5 #[.int .u8 c] #[.int .u8 (IntKind.u8.wrap (c + 1))] (.int .u8 (IntKind.u8.wrap (c + 1))) ?_ ?_ hatI ?_ (by kernel_rfl) ?_ ?_ ?_); rfl; rfl; exact (show (0 : Nat) < 1 by decide); rfl; rfl; go_must (intro w6 hatI6 hg; have hH6 := hH5.keptLt hg (by omega) (by omega); have hu6 := below_grown hu5 hg hu5.size (by omega); clear hatI hatI6 hg hH5 hu5))
    | (go_at_call 9; have _t := S1; clear _t; go_must (have PF := Find hH6 host fin 1 ⟨by omega, by omega⟩ OLD.out; rw [FK.out] at PF; refine PF.mono ?_; clear PF S1; rintro e w7 ⟨v7, rfl, hr7, hb7⟩; have hr7' : Row .u8 5 w6.heap.size w7 v7 [c] := hr7; clear hr7; obtain ⟨p7, c7, rfl, _⟩ := hr7'.reads; obtain ⟨g7, rfl, _, hB7, hl7⟩ := hr7'.form (by simp); have k0 := (hr7'.cell 0 (by simp)).1; simp at k0))
    | ((with_reducible refine wpl_storeB rfl 5 (.tmp 84) (.tmp 83) rfl rfl .u8 w6.heap.size 5 g7 [c].length c7 0 [c] (IntKind.u8.wrap (c + 2)) ?_ ?_ hr7' rfl ?_ (by kernel_rfl) ?_); rfl; rfl; exact (show (0 : Nat) < 1 by decide); go_must (intro w8 hr8 hg; have hb8 := below_grown hb7 hg hb7.size hB7; have hH8 := hH6.below hb8; have hu8 := hu6.trans (hb8.mono hu6.size); clear k0 hr7' hr8 hb7 hg))
    | (go_at_call 9; go_must (have PF := Find hH8 host fin 1 ⟨by omega, by omega⟩ OLD.out; rw [FK.out] at PF; refine PF.mono ?_; clear PF; rintro e w9 ⟨v9, rfl, hr9, hb9⟩; have hr9' : Row .u8 5 w8.heap.size w9 v9 [c] := hr9; clear hr9; obtain ⟨p9, c9, rfl, _⟩ := hr9'.reads; obtain ⟨g9, rfl, _, hB9, hl9⟩ := hr9'.form (by simp); have k9 := (hr9'.cell 0 (by simp)).1; simp at k9; have hu9 := hu8.trans (hb9.mono hu8.size))))
  go_ret
  exact ⟨rfl, hu9⟩
end Go.Proofs.Ytmbhiajhlfjknaa.Dup
