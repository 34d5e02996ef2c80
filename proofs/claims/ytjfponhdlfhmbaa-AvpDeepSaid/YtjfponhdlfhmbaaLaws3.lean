/-
  The law AvpGets: the walk.
-/
import Derived.Test.YtjfponhdlfhmbaaLaws1
import Derived.Test.YtjfponhdlfhmbaaSame2
namespace Go.Proofs.Ytjfponhdlfhmbaa.Avp
open Go.RowKit Mem Cells Avps Wire Ops
set_option linter.unusedVariables false
set_option linter.unusedSimpArgs false

theorem getOf_ok (xs : List Int) (h : ∀ x ∈ xs, 0 ≤ x ∧ x ≤ 255) : ∀ a ∈ (getOf xs).1, a.ok := by
  have key : ∀ (f at_ : Nat) (acc : List A), (∀ a ∈ acc, a.ok) → ∀ a ∈ (getF xs f at_ acc).1, a.ok := by
    intro f
    induction f with
    | zero => intro at_ acc h a ha; exact h a ha
    | succ f ih =>
      intro at_ acc hacc a ha
      unfold getF at ha
      split at ha
      · exact hacc a ha
      split at ha
      · cases ha
      split at ha
      · rename_i c1 c2 c3
        refine ih _ _ (fun b hb => ?_) a ha
        rcases List.mem_append.1 hb with hb | hb
        · exact hacc b hb
        · rw [List.mem_singleton] at hb
          subst hb
          exact (one_ok _ (fun x hx => h x (List.mem_of_mem_drop hx)) c3).1
      · cases ha
  unfold getOf
  split
  · intro a ha; cases ha
  · exact key _ _ _ (fun a ha => by cases ha)
set_option maxRecDepth 100000 in
set_option maxHeartbeats 1600000 in
theorem gets (v : Value) (xs : List Int) (w : World) (hr : Reads .u8 w v xs) (hwf : ∀ x ∈ xs, 0 ≤ x ∧ x ≤ 255) (hb : xs.length ≤ 140737488351232) : Calls Try.prog 4 #[v] w fun e w' => e = .returned (.bool true) ∧ Below w.heap.size w w' := by
  have PG := Lib.hid (fun v u (h : Reads .u8 u v xs) => avpGet v xs u h hwf)
  have PR := Lib.hid (fun u (h : Reads .u8 u v xs) => refGetAll v xs u h hwf)
  have hok := getOf_ok xs hwf
  obtain ⟨R, hR⟩ : ∃ R, getOf xs = R := ⟨_, rfl⟩
  obtain ⟨al, k, er⟩ := R
  rw [hR] at PG PR hok
  have SA := Lib.hid (fun v v' u (h : ReadsL u v al) (h' : ReadsL u v' al) => sameAll v v' al al u h h' hok hok)
  have K1 : ([] : List Int).length + xs.length ≤ maxLen := by simp [maxLen]; omega
  have K2 : (([] : List Int).length + xs.length) * 1 ≤ 140737488355328 := by simp; omega
  have HR := Lib.hid hr
  clear hR hok hwf hr
  go_enter Try.func4, Try.ntmps4
  go_wp2_with (first
    | ((with_reducible refine wpl_empty rfl 23 5 rfl .u8 (fun _ => by kernel_rfl) ?_); go_must (intro w1 hown1 hb1 hs1; have HS1 := Lib.hid hs1; have hr1 := HR.out.below hb1; clear hs1))
    | (at_builtin; have _t := hown1; clear _t; go_must (obtain ⟨i0, hi, hz0, hz1, hz2⟩ := info_parts info5; refine wpl_append rfl (.tmp 10) (.tmp 11) 23 rfl .u8 w.heap.size 5 1 i0 (.int .u8 0) Try.underlying23 hi hz0 hz1 hz2 rfl _ v [] xs rfl rfl hown1 hr1 K1 K2 hb1.size ?_; clear hi hz0 hz1 hz2; intro v2 w2 hv2 hg2; rw [List.nil_append] at hv2; have hb2 := hb1.grown hg2 hb1.size (fun q e => (hown1.lt q e).1); clear hown1 hr1 hg2))
    | (go_at_call 12; go_must (refine (PG.out _ _ hv2.reads).mono ?_; rintro e w3 ⟨v3, rfl, hv3, hb3⟩; have hb23 := hb2.trans (hb3.mono hb2.size)))
    | (go_at_call 13; go_must (refine (PR.out _ (HR.out.below hb23)).mono ?_; rintro e w4 ⟨v4, rfl, hv4, hb4⟩))
    | (go_at_call 11; go_must (refine (answers _).mono ?_; rintro e w5 ⟨rfl, hb5⟩; have hr5 := (hv3.reads.below hb4).below hb5; have hr5' := hv4.reads.below hb5))
    | (go_at_call 14; go_must (refine (SA.out _ _ _ hr5 hr5').mono ?_; rintro e w6 ⟨rfl, hb6⟩; have hx4 := hb23.trans (hb4.mono hb23.size); have hx5 := hx4.trans (hb5.mono hx4.size); have hx6 := hx5.trans (hb6.mono hx5.size); clear hr5 hr5' hv3 hv4)))
  go_ret
  exact ⟨rfl, hx6⟩
end Go.Proofs.Ytjfponhdlfhmbaa.Avp
