/-
  Contracts: Open's deferred closure (28), which recovers or has nothing to recover; Open (17) of attributes within one another.
-/
import Derived.Test.YtjfponhdlfhmbaaDeep3
import Derived.Defers
import Derived.Recover
namespace Go.Proofs.Ytjfponhdlfhmbaa.Deep
open Go.RowKit Mem Cells Avps Avp Ops
attribute [local go_sem] Oper.semAt_some
theorem assert24 (w : World) : (Instr.typeAssert (.iface 24 (.int .i64 12)) 20 24 true).run Try.prog w = .ok (.tuple #[.int .i64 12, .bool true]) w := by kernel_rfl
set_option maxRecDepth 100000 in
theorem catch_panicking (p q : Nat) (vl ve : Value) (older : List PanicEntry) (w : World) (h1 : At w p 42 #[vl]) (h2 : At w q 24 #[ve]) (hpq : p ≠ q) :
    CallsD Try.prog 28 #[.pointer (some ⟨p, 0, none⟩), .pointer (some ⟨q, 0, none⟩)] (.panicking ({ v := .iface 24 (.int .i64 12), recovered := false } :: older)) w fun e u' w' =>
      e = .returned (.tuple #[]) ∧ u' = .panicking ({ v := .iface 24 (.int .i64 12), recovered := true } :: older) ∧ At w' p 42 #[.slice none 0 0] ∧ At w' q 24 #[.int .i64 12] ∧ ∃ w1, w.grownBy w1 (some p) ∧ w1.grownBy w' (some q) := by
  refine callsD_of_wpS Try.func28 rfl fun c₀ cs hu => ?_
  apply wpS_seq
  apply wpS_region
  simp [wpOpsS, go_sem, recoverD, hu, Try.ntmps28, Exit.thenS]
  refine wpS_of_wp ?_
  obtain ⟨iv, hiv⟩ : ∃ iv, Value.iface 24 (.int .i64 12) = iv := ⟨_, rfl⟩
  change Code.wp Try.prog _ _ { tmps := #[.pointer (some ⟨p, 0, none⟩), .pointer (some ⟨q, 0, none⟩), .iface 24 (.int .i64 12), undef, undef, .iface 24 (.int .i64 12), undef, undef, undef, undef, undef, undef, undef, undef, undef, undef, undef], defers := [] } w
  have H2 := Lib.hid h2
  clear hiv
  generalize hQ : (fun e a' w' => bodyPostS Try.prog Try.f28 c₀ cs _ e a' _ w') = QQ
  have hta := assert24
  have HQ := Lib.hid hQ
  clear hQ hu
  go_wp2_with (first
    | ((with_reducible refine wpl_storeC rfl 42 (.tmp 0) _ rfl rfl p 0 42 #[vl] #[.slice none 0 0] (.slice none 0 0) ?_ ?_ h1 ?_ (by kernel_rfl) ?_ ?_ ?_); rfl; rfl; exact (show (0 : Nat) < 1 by decide); rfl; rfl; go_must (intro w1 hat1 hg1; have HA1 := Lib.hid hat1; have HG1 := Lib.hid hg1; have HA2 := Lib.hid (at_kept H2.out hg1 (fun e => hpq (Option.some.inj e))); clear hat1 hg1 h1))
    | ((with_reducible refine wpl_storeC rfl 24 (.tmp 1) _ rfl rfl q 0 24 #[ve] #[.int .i64 12] (.int .i64 12) ?_ ?_ HA2.out ?_ (by kernel_rfl) ?_ ?_ ?_); rfl; rfl; exact (show (0 : Nat) < 1 by decide); rfl; rfl; go_must (intro w2 hat2 hg2; have HA3 := Lib.hid hat2; have HG2 := Lib.hid hg2; have HA4 := Lib.hid (at_kept HA1.out hg2 (fun e => hpq (Option.some.inj e).symm)); clear hat2 hg2)))
  rw [← HQ.out]
  exact ⟨rfl, _, rfl, .tuple #[], results_none rfl _ _ _, rfl, rfl, HA4.out, HA3.out, _, HG1.out, HG2.out⟩
set_option maxRecDepth 100000 in
theorem catch_idle (p q : Nat) (w : World) :
    CallsD Try.prog 28 #[.pointer (some ⟨p, 0, none⟩), .pointer (some ⟨q, 0, none⟩)] .returning w fun e u' w' => e = .returned (.tuple #[]) ∧ u' = .returning ∧ w' = w := by
  refine callsD_of_wpS Try.func28 rfl fun c₀ cs hu => ?_
  apply wpS_seq
  apply wpS_region
  simp [wpOpsS, go_sem, recoverD, hu, Try.ntmps28, Exit.thenS]
  refine wpS_of_wp ?_
  change Code.wp Try.prog _ _ { tmps := #[.pointer (some ⟨p, 0, none⟩), .pointer (some ⟨q, 0, none⟩), .nilIface, undef, undef, .nilIface, undef, undef, undef, undef, undef, undef, undef, undef, undef, undef, undef], defers := [] } w
  generalize hQ : (fun e a' w' => bodyPostS Try.prog Try.f28 c₀ cs _ e a' _ w') = QQ
  have HQ := Lib.hid hQ
  have HU := Lib.hid hu
  clear hQ hu
  go_wp2_with fail
  rw [← HQ.out]
  exact ⟨rfl, _, by rw [← HU.out], .tuple #[], results_none rfl _ _ _, rfl, rfl, rfl⟩
theorem OwnI.mono {B B' : Nat} {w : World} {v : Value} {al : List (Int × A)} (h : OwnI B w v al) (hB : B' ≤ B) : OwnI B' w v al := by
  obtain ⟨zs, h1, h2, h3⟩ := h
  refine ⟨zs, h1, ⟨h2.1, ?_⟩, h3⟩
  rcases h2.2 with hn | ⟨g, cap, cur, rfl, hbb, rest⟩
  · exact .inl hn
  · exact .inr ⟨g, cap, cur, rfl, by omega, rest⟩
theorem one_slice : ∀ c ∈ (#[.slice none 0 0] : Array Value).toList, ∀ n, c ≠ .int .u8 n := by
  intro c hc n
  simp only [List.mem_cons, List.not_mem_nil, or_false] at hc
  rw [hc]; intro h; cases h
theorem one_i64 (z : Int) : ∀ c ∈ (#[.int .i64 z] : Array Value).toList, ∀ n, c ≠ .int .u8 n := by
  intro c hc n
  simp only [List.mem_cons, List.not_mem_nil, or_false] at hc
  rw [hc]; intro h; cases h
def OpenedIs (w : World) (code c1 : Int) (data : List Int) (k : Nat) : Ending → World → Prop := fun e w' =>
  Below w.heap.size w w' ∧ ((k < 8 ∧ ∃ lv, e = .returned (.tuple #[lv, .int .i64 0]) ∧ OwnI w.heap.size w' lv (itsF code c1 data 0 k)) ∨ (8 ≤ k ∧ e = .returned (.tuple #[.slice none 0 0, .int .i64 12])))
set_option maxRecDepth 100000 in
set_option maxHeartbeats 4000000 in
theorem open17 {code c1 : Int} {data : List Int} (N : OkN code c1 data) (k : Nat) (hk : k ≤ 13) (w : World) (v : Value) (bg og cg : Nat) (hcg : 1 ≤ cg) (hr : Reads .u8 w v (encAll 0 0 [nestA code c1 data k])) (hcode : w.cell? ⟨bg, og, none⟩ = some (.int .u32 code)) (hbg : bg < w.heap.size) :
    Calls Try.prog 17 #[v, .slice (some ⟨bg, og, none⟩) 1 cg] w (OpenedIs w code c1 data k) := by
  have hmf : ∀ (fn : Fn) (first cap : Array Value) (w : World), (Instr.makeFunc fn first cap).run Try.prog w = .ok (.func fn first cap) w := fun _ _ _ _ => rfl
  obtain ⟨p, c, rfl, h1, h2, h3, h4⟩ := id hr
  have HR := Lib.hid hr
  have HC := Lib.hid hcode
  have HBG := Lib.hid hbg
  have HW := Lib.hid (show ∀ z ∈ encAll 0 0 [nestA code c1 data k], 0 ≤ z ∧ z ≤ 255 from encAll_wf _ (fun a ha => by rw [List.mem_singleton] at ha; subst ha; exact nest_ok N k) 0 0 (by decide) (by decide))
  obtain ⟨xl, hxl⟩ : ∃ xl, (encAll 0 0 [nestA code c1 data k]).length = xl := ⟨_, rfl⟩
  rw [hxl] at HR ⊢
  have HXL := Lib.hid hxl
  clear hr hcode hbg h1 h2 h3 h4 hxl
  have PG := Lib.hid (fun u (hb : Below w.heap.size w u) => (show Calls Try.prog 12 #[.slice p xl c] u (GetDs u ([nestA code c1 data k], 0, 0)) by have := avpGetD _ _ u (HR.out.below hb) HW.out; rwa [nest_get N (by omega)] at this))
  go_enter_defers Try.func17, Try.ntmps17
  go_upto_region 1 with (first
    | ((with_reducible refine wpl_allocAt rfl 42 rfl #[.slice none 0 0] (by kernel_rfl) ?_); go_must (intro w3 hat3 hb3 hs3; have HC3 := Lib.hid hb3; have HS3 := Lib.hid hs3; have HP3 := Lib.hid hat3; clear hb3 hs3 hat3))
    | ((with_reducible refine wpl_allocAt rfl 24 rfl #[.int .i64 0] (by kernel_rfl) ?_); go_must (intro w4 hat4 hb4 hs4; have HC4 := Lib.hid (HC3.out.trans (hb4.mono HC3.out.size)); have HS4 := Lib.hid hs4; have HQ4 := Lib.hid hat4; have HP4 := Lib.hid (HP3.out.ext hb4); clear hb4 hs4 hat4)))
  obtain ⟨p0, hp0⟩ : ∃ p0, w.heap.size = p0 := ⟨_, rfl⟩
  obtain ⟨q0, hq0⟩ : ∃ q0, w3.heap.size = q0 := ⟨_, rfl⟩
  have HP0 := Lib.hid hp0
  have HPQ := Lib.hid (show p0 < q0 by have := HS3.out; omega)
  have HQS := Lib.hid (show q0 < w4.heap.size from HQ4.out.lt |> fun h => by rw [← hq0]; exact h)
  rw [hp0] at HP4
  rw [hq0] at HQ4
  rw [hp0, hq0]
  clear hp0 hq0 HC3 HP3 HS3 HS4
  go_upto_region 6 with (first
    | (go_at_call 12; go_must (refine (PG.out _ HC4.out).mono ?_; rintro e w5 ⟨v5, rfl, hv5, hb5⟩; have HV5 := Lib.hid hv5; have HC5 := Lib.hid (HC4.out.trans (hb5.mono HC4.out.size)); have HQ5 := Lib.hid (HQ4.out.ext hb5); have HP5 := Lib.hid (HP4.out.ext hb5); have HS5 := Lib.hid (Nat.lt_of_lt_of_le HQS.out hb5.size); clear hv5 hb5))
    | ((with_reducible refine wpl_storeC rfl 24 (.tmp 5) (.tmp 14) rfl rfl q0 0 24 #[.int .i64 0] #[.int .i64 0] (.int .i64 0) ?_ ?_ HQ5.out ?_ (by kernel_rfl) ?_ ?_ ?_); rfl; rfl; exact (show (0 : Nat) < 1 by decide); rfl; rfl; go_must (intro w6 hat6 hg6; have HQ6 := Lib.hid hat6; have HC6 := Lib.hid (HC5.out.grown hg6 HC5.out.size (fun q e => by cases e; have h1 := HP0.out; have h2 := HPQ.out; omega)); have HP6 := Lib.hid (at_kept HP5.out hg6 (fun e => by have := HPQ.out; have := Option.some.inj e; omega)); have HG6 := Lib.hid hg6; have c6 := hat6.cell 0; simp at c6; clear hat6 hg6))
    | ((with_reducible refine wpl_boxAt rfl 63 (.tmp 20) rfl #[.slice (some ⟨bg, og, none⟩) 1 cg, .slice none 0 0] ?_ ?_); rfl; go_must (intro w7 hat7 hb7 hs7; have HA7 := Lib.hid hat7; have HB7 := Lib.hid hb7; clear hat7 hb7 hs7)))
  obtain ⟨g, hg⟩ : ∃ g, w6.heap.size = g := ⟨_, rfl⟩
  rw [hg] at HA7
  have hgb : Below g w6 w7 := by have := HB7.out; rwa [hg] at this
  obtain ⟨q1, cq, pq, mq, hvq, hcq, hqlt, hrq, hrdq, hfq⟩ := ownD_one HV5.out
  subst hvq
  have hqB : w4.heap.size ≤ q1 := (HV5.out.ownL.lt q1 rfl).1
  have hq0q : q0 < q1 := Nat.lt_of_lt_of_le HQS.out hqB
  have hs56 : w5.heap.size ≤ g := by rw [← hg]; exact HG6.out.size
  have hrq6 : w6.rangeAt q1 0 (row (nestA code c1 data k) (.slice pq (nestA code c1 data k).data.length mq)) := fun j v hv => by
    rw [← hrq j v hv]
    simp only [World.cell?, HG6.out.block q1 hqlt (fun e => by have := Option.some.inj e; omega)]
  have hrd6 : Reads .u8 w6 (.slice pq (nestA code c1 data k).data.length mq) (nestA code c1 data k).data := reads_grown hrdq HG6.out (fun h0 q hq e => by
    have h1 := hfq h0 q e
    have h2 := HQS.out
    cases hq
    omega)
  have hrq7 : w7.rangeAt q1 0 (row (nestA code c1 data k) (.slice pq (nestA code c1 data k).data.length mq)) := range_below hrq6 hgb (by omega)
  have hwg : w.heap.size ≤ g := by rw [← hg]; exact HC6.out.size
  have PR := Lib.hid (show Calls Try.prog 29 #[.pointer (some ⟨g, 0, none⟩), .slice (some ⟨q1, 0, none⟩) 1 cq, .int .i64 0] w7 (OpenIs w7 g g (.slice (some ⟨bg, og, none⟩) 1 cg) [] (itsF code c1 data 0 k) (0 + k)) from
    open29 N bg og cg hcg k 0 w7 g g q1 0 cq (.slice none 0 0) [] pq mq HA7.out (Nat.le_refl _) (by have := hgb.size; omega) (Nat.lt_of_lt_of_le HBG.out hwg) ((hgb.cell (p := ⟨bg, og, none⟩) (Nat.lt_of_lt_of_le HBG.out hwg)).trans ((HC6.out.cell (p := ⟨bg, og, none⟩) HBG.out).trans HC.out)) (OwnI.nil _ _) rfl (by omega) hcq (by have := hgb.size; omega) hrq7 (hrd6.below HB7.out) (fun h0 k hk => by cases hk))
  have HGB := Lib.hid (And.intro hwg (And.intro hgb.size (show q0 < g from by have := HQS.out; omega)))
  have HP7 := Lib.hid (HP6.out.ext HB7.out)
  have HQ7 := Lib.hid (HQ6.out.ext HB7.out)
  have HC7 := Lib.hid (HC6.out.trans (hgb.mono hwg))
  have HG := Lib.hid hg
  rw [hg]
  clear hg hgb hcq hqlt hrq hrdq hfq hqB hq0q hs56 hrq6 hrd6 hrq7 hwg HV5 HC5 HQ5 HP5 HS5 HG6 HC6 HP6 HQ6 HA7 HB7 PG HC4 HQ4 HP4 c6
  by_cases hk8 : k < 8
  · have HK := Lib.hid hk8
    have PR2 := Lib.hid (show Calls Try.prog 29 #[.pointer (some ⟨g, 0, none⟩), .slice (some ⟨q1, 0, none⟩) 1 cq, .int .i64 0] w7 (fun e w' => Below g w7 w' ∧ e = .returned (.tuple #[]) ∧ ∃ lv', At w' g 63 #[.slice (some ⟨bg, og, none⟩) 1 cg, lv'] ∧ OwnI g w' lv' (itsF code c1 data 0 k)) from PR.out.mono (fun e w' ⟨h1, h2⟩ => ⟨h1, h2.elim (fun h => h.2) (fun h => absurd h.1 (by omega))⟩))
    clear PR hk8
    go_upto_region 7 with (go_at_call 29; go_must (refine PR2.out.mono ?_; rintro e w8 ⟨hb8, rfl, lv, hat8, hi8⟩; have HB8 := Lib.hid hb8; have HA8 := Lib.hid hat8; have HI8 := Lib.hid hi8; clear hb8 hat8 hi8))
    have hp8 : At w8 p0 42 #[.slice none 0 0] := by unfold At; rw [HB8.out.block p0 (by have := HGB.out; have := HPQ.out; omega)]; exact HP7.out
    have hq8 : At w8 q0 24 #[.int .i64 0] := by unfold At; rw [HB8.out.block q0 (HGB.out.2.2)]; exact HQ7.out
    have HP8 := Lib.hid hp8
    have HQ8 := Lib.hid hq8
    have c1' := HA8.out.cell 1
    simp at c1'
    obtain ⟨pl, cl, hlv, _⟩ := HI8.out.shape
    rw [its_length] at hlv
    subst hlv
    have HC8 := Lib.hid (HC7.out.trans (HB8.out.mono HGB.out.1))
    clear hp8 hq8 HP7 HQ7 HC7
    go_wp2_with (first
      | ((with_reducible refine wpl_storeC rfl 42 (.tmp 4) (.tmp 28) rfl rfl p0 0 42 #[.slice none 0 0] #[.slice pl (k + 1) cl] (.slice pl (k + 1) cl) ?_ ?_ HP8.out ?_ (by kernel_rfl) ?_ ?_ ?_); rfl; rfl; exact (show (0 : Nat) < 1 by decide); rfl; rfl; go_must (intro w9 hat9 hg9; have HP9 := Lib.hid hat9; have HG9 := Lib.hid hg9; have HQ9 := Lib.hid (at_kept HQ8.out hg9 (fun e => by have := HPQ.out; have := Option.some.inj e; omega)); clear hat9 hg9))
      | ((with_reducible refine wpl_storeC rfl 24 (.tmp 5) _ rfl rfl q0 0 24 #[.int .i64 0] #[.int .i64 0] (.int .i64 0) ?_ ?_ HQ9.out ?_ (by kernel_rfl) ?_ ?_ ?_); rfl; rfl; exact (show (0 : Nat) < 1 by decide); rfl; rfl; go_must (intro w10 hat10 hg10; have HQ10 := Lib.hid hat10; have HG10 := Lib.hid hg10; have HP10 := Lib.hid (at_kept HP9.out hg10 (fun e => by have := HPQ.out; have := Option.some.inj e; omega)); clear hat10 hg10)))
    have r1 := HP10.out.cell 0
    have r2 := HQ10.out.cell 0
    simp at r1 r2
    refine leaves_cons (f := 28) (args := #[.pointer (some ⟨p0, 0, none⟩), .pointer (some ⟨q0, 0, none⟩)]) (by simp) (by simp [go_sem]) ?_
    refine (catch_idle p0 q0 w10).mono ?_
    rintro e u' w'' ⟨rfl, rfl, rfl⟩
    simp [Leaves, settle, results, Try.results17, go_sem, r1, r2]
    have hi9 := HI8.out.other HG9.out HP8.out (by decide) one_slice
    have hi10 := hi9.other HG10.out HQ9.out (by decide) (one_i64 0)
    have hb9 := HC8.out.grown HG9.out HC8.out.size (fun q e => by cases e; exact Nat.le_of_eq HP0.out)
    exact ⟨hb9.grown HG10.out hb9.size (fun q e => by cases e; have := HP0.out; have := HPQ.out; omega), .inl ⟨HK.out, _, rfl, hi10.mono HGB.out.1⟩⟩
  · have HK := Lib.hid hk8
    have PR2 := Lib.hid (show Calls Try.prog 29 #[.pointer (some ⟨g, 0, none⟩), .slice (some ⟨q1, 0, none⟩) 1 cq, .int .i64 0] w7 (fun e w' => Below g w7 w' ∧ e = .panicked [{ v := .iface 24 (.int .i64 12), recovered := false }]) from PR.out.mono (fun e w' ⟨h1, h2⟩ => ⟨h1, h2.elim (fun h => absurd h.1 (by omega)) (fun h => h.2)⟩))
    clear PR hk8
    go_wp2_with (go_at_call 29; go_must (refine PR2.out.mono ?_; rintro e w8 ⟨hb8, rfl⟩; have HB8 := Lib.hid hb8; clear hb8))
    have hp8 : At w8 p0 42 #[.slice none 0 0] := by unfold At; rw [HB8.out.block p0 (by have := HGB.out; have := HPQ.out; omega)]; exact HP7.out
    have hq8 : At w8 q0 24 #[.int .i64 0] := by unfold At; rw [HB8.out.block q0 (HGB.out.2.2)]; exact HQ7.out
    have hC8 := HC7.out.trans (HB8.out.mono HGB.out.1)
    refine leaves_cons (f := 28) (args := #[.pointer (some ⟨p0, 0, none⟩), .pointer (some ⟨q0, 0, none⟩)]) (by simp) (by simp [go_sem]) ?_
    refine (catch_panicking p0 q0 _ _ [] w8 hp8 hq8 (by have := HPQ.out; omega)).mono ?_
    rintro e u' w'' ⟨rfl, rfl, hp9, hq9, w9, hg9, hg10⟩
    have r1 := hp9.cell 0
    have r2 := hq9.cell 0
    simp at r1 r2
    simp [Leaves, settle, results, Try.results17, go_sem, r1, r2]
    have hb9 := hC8.grown hg9 hC8.size (fun q e => by cases e; exact Nat.le_of_eq HP0.out)
    exact ⟨hb9.grown hg10 hb9.size (fun q e => by cases e; have := HP0.out; have := HPQ.out; omega), .inr ⟨by have := HK.out; omega, rfl⟩⟩
end Go.Proofs.Ytjfponhdlfhmbaa.Deep
