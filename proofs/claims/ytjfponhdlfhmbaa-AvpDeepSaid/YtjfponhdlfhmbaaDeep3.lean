/-
  Contract: opener.open (29) of attributes within one another: all of them, or the panic that they are too deep.
-/
import Derived.Test.YtjfponhdlfhmbaaDeep2
namespace Go.Proofs.Ytjfponhdlfhmbaa.Deep
open Go.RowKit Mem Cells Avps Avp Ops
set_option linter.unusedVariables false
set_option linter.unusedSimpArgs false
attribute [local go_sem] Oper.semAt_some

def deepPanic : Ending := .panicked [{ v := .iface 24 (.int .i64 12), recovered := false }]
def OpenIs (W0 : World) (B g : Nat) (gv : Value) (its its2 : List (Int × A)) (m : Nat) : Ending → World → Prop := fun e w' =>
  Below B W0 w' ∧ ((m < 8 ∧ e = .returned (.tuple #[]) ∧ ∃ lv', At w' g 63 #[gv, lv'] ∧ OwnI B w' lv' (its ++ its2)) ∨ (8 ≤ m ∧ e = deepPanic))
theorem range_head5 {w : World} {g T : Nat} {cs : Array Value} (h : At w g T cs) : w.rangeAt g 0 cs.toList := fun j v hv => by
  rw [Nat.zero_add, h.cell j, ← hv, Array.getElem?_toList]
set_option maxRecDepth 100000 in
set_option maxHeartbeats 16000000 in
theorem open29 {code c1 : Int} {data : List Int} (N : OkN code c1 data) (bg og cg : Nat) (hcg : 1 ≤ cg) : ∀ (j d : Nat) (W0 : World) (B g b off cap : Nat) (lv : Value) (its : List (Int × A)) (pd : Option Addr) (md : Nat),
    At W0 g 63 #[.slice (some ⟨bg, og, none⟩) 1 cg, lv] → B ≤ g → B ≤ W0.heap.size → bg < B → W0.cell? ⟨bg, og, none⟩ = some (.int .u32 code) → OwnI B W0 lv its → its.length = d → d + j ≤ 20 → 1 ≤ cap → b < W0.heap.size →
    W0.rangeAt b off (row (nestA code c1 data j) (.slice pd (nestA code c1 data j).data.length md)) → Reads .u8 W0 (.slice pd (nestA code c1 data j).data.length md) (nestA code c1 data j).data → ApartI lv (nestA code c1 data j).data (.slice pd (nestA code c1 data j).data.length md) →
    Calls Try.prog 29 #[.pointer (some ⟨g, 0, none⟩), .slice (some ⟨b, off, none⟩) 1 cap, .int .i64 (d : Int)] W0 (OpenIs W0 B g (.slice (some ⟨bg, og, none⟩) 1 cg) its (itsF code c1 data d j) (d + j)) := by
  intro j
  induction j using Nat.strongRecOn with
  | _ j ih =>
    intro d W0 B g b off cap lv its pd md hA hBg hB hbg hcode hI hil hdj hcap hb hra hrd hap
    obtain ⟨el, ha⟩ : ∃ el, nestA code c1 data j = el := ⟨_, rfl⟩
    have hcd : el.code = if j = 0 then c1 else code := by rw [← ha]; exact nest_code j
    have hvn : el.vendor = 0 := by rw [← ha]; exact nest_vendor j
    rw [ha] at hra hrd hap
    obtain ⟨an, han⟩ : ∃ an, el.data.length = an := ⟨_, rfl⟩
    rw [han] at hra hrd hap
    obtain ⟨pl, cl, hlv, hl1, hl2⟩ := hI.shape
    rw [hil] at hlv hl1
    subst hlv
    have HA := Lib.hid hA
    have HI := Lib.hid hI
    have HIL := Lib.hid hil
    have HRA := Lib.hid hra
    have HRD := Lib.hid hrd
    have HAP := Lib.hid hap
    have HCODE := Lib.hid hcode
    have HAA := Lib.hid ha
    have HCD := Lib.hid hcd
    have HVN := Lib.hid hvn
    have HAN := Lib.hid han
    have HIH := Lib.hid ih
    have HBB := Lib.hid (And.intro hBg (And.intro hB (And.intro hbg (And.intro hb hl2))))
    clear hA hI hil hra hrd hap hcode ha hcd hvn han ih hBg hB hbg hb hl1 hl2
    have er : (row el (.slice pd an md)).toArray = #[.int .u32 el.code, .int .u32 el.vendor, .bool el.must, .bool el.prot, .slice pd an md] := rfl
    go_enter Try.func29, Try.ntmps29
    go_upto_region 1 with fail
    go_loopw [13] (fun vi wr => ∃ i : Nat, vi = .int .i64 (i : Int) ∧ i ≤ 1 ∧ Hid (Below B W0 wr) ∧ Hid (i = 0 → W0 = wr) ∧ Hid (i = 1 → d + j < 8 ∧ ∃ lv', At wr g 63 #[.slice (some ⟨bg, og, none⟩) 1 cg, lv'] ∧ OwnI B wr lv' (its ++ itsF code c1 data d j))) (fun vi _ => 1 - (intOf vi).toNat)
    case atStart => exact ⟨0, rfl, by omega, Lib.hid (Below.refl _ _), Lib.hid (fun _ => rfl), Lib.hid (fun h => by omega)⟩
    case round =>
      obtain ⟨i, rfl, hi, HBL, H0, H1⟩ := hrel
      by_cases h0 : i = 0
      · subst h0
        have e0 := H0.out rfl
        subst e0
        clear HBL H0 H1
        go_upto_region 3 with (first
          | ((with_reducible refine wpl_loadE rfl 41 (.tmp 15) rfl b off ?_ (row el (.slice pd an md)).toArray _ HRA.out Try.underlying41 rfl (by kernel_rfl) ?_); rfl)
          | ((with_reducible refine wpl_allocAt rfl 41 rfl #[.int .u32 0, .int .u32 0, .bool false, .bool false, .slice none 0 0] (by kernel_rfl) ?_); go_must (intro w3 hat3 hb3 hs3; have HC3 := Lib.hid hb3; have HS3 := Lib.hid hs3; clear hb3 hs3))
          | ((with_reducible refine wpl_storeR rfl 41 (.tmp 7) (.tmp 16) rfl rfl W0.heap.size 41 #[.int .u32 0, .int .u32 0, .bool false, .bool false, .slice none 0 0] (row el (.slice pd an md)).toArray ?_ ?_ hat3 (by kernel_rfl) ?_ ?_ ?_); rfl; rfl; rfl; (simp [Value.oneCell', row]); go_must (intro w4 hat4 hg4; have HT4 := Lib.hid hat4; have HC4 := Lib.hid (below_grown HC3.out hg4 HC3.out.size (Nat.le_refl _)); clear hat3 hat4 hg4)))
        have HA4 := Lib.hid (HA.out.ext HC4.out)
        have HI4 := Lib.hid (HI.out.below HC4.out)
        have HRD4 := Lib.hid (HRD.out.below HC4.out)
        have HCO4 := Lib.hid ((HC4.out.cell (p := ⟨bg, og, none⟩) (Nat.lt_of_lt_of_le HBB.out.2.2.1 HBB.out.2.1)).trans HCODE.out)
        have HB4 := Lib.hid (show Below B W0 w4 from HC4.out.mono HBB.out.2.1)
        have HBS4 := Lib.hid (show B ≤ w4.heap.size from Nat.le_trans HBB.out.2.1 HC4.out.size)
        obtain ⟨h, hh⟩ : ∃ h, W0.heap.size = h := ⟨_, rfl⟩
        have HH := Lib.hid hh
        rw [hh] at HT4 ⊢
        clear hh HC3 HS3
        by_cases hd8 : 8 ≤ d
        · have hd8z : (8 : Int) ≤ (d : Int) := by omega
          have hd8b : decide ((8 : Int) ≤ (d : Int)) = true := decide_eq_true hd8z
          go_wp2_with fail
          exact ⟨rfl, HB4.out, .inr ⟨by omega, rfl⟩⟩
        · have hd8z : ¬ (8 : Int) ≤ (d : Int) := by omega
          have hd8b : decide ((8 : Int) ≤ (d : Int)) = false := decide_eq_false hd8z
          have g1 := HA4.out.cell 1
          simp at g1
          have hd9 : ¬ (256 : Int) ≤ (d : Int) := by omega
          have hd9b : decide ((256 : Int) ≤ (d : Int)) = false := decide_eq_false hd9
          have hlen : its.length ≤ 99999 := by rw [HIL.out]; omega
          go_upto_region 7 with fail
          refine MonoA.wp_region_A [0] 9 36 [some 27, some 28, some 29, some 30, some 31, some 32, some 33, some 34, some 35, some 36, some 37, some 38, none] [.val (.pointer (some ⟨g, 0, none⟩)), .val (.pointer (some ⟨g, 0, none⟩)), .val (.pointer (some ⟨g, 0, none⟩)), .val (.pointer (some ⟨g, 1, none⟩)), .val (.slice pl d cl), .val (.int .i64 (d : Int)), .val (.agg (row el (.slice pd an md)).toArray), .val (.agg (rowI ((d : Int), el) (.slice pd an md)).toArray), .prp (oneI ((d : Int), el) (.slice pd an md)), .prp (Mono.anyV), .val (.pointer (some ⟨g, 0, none⟩)), .val (.pointer (some ⟨g, 1, none⟩)), .prp (Mono.anyV)] (MidI w4 B g (.slice (some ⟨bg, og, none⟩) 1 cg) (.slice pl d cl) (its ++ [((d : Int), el)])) (FinI w4 B g (.slice (some ⟨bg, og, none⟩) 1 cg) (.slice pl d cl) (its ++ [((d : Int), el)])) (by kernel_rfl) (by kernel_rfl) (by kernel_rfl) (of_decide_eq_true (by kernel_rfl)) rfl rfl rfl rfl (by kernel_rfl) (by kernel_rfl) _ _ rfl rfl ?_ ?_ ?_ ?_ ?_
          · simp only [MonoA.HeadGoals, List.take_succ_cons, List.take_zero, and_true]
            refine ⟨?_, ?_, ?_, ?_, ?_, ?_, ?_, ?_, ?_⟩
            · rw [if_pos (by decide)]
              intro a u hsu hdu
              have z0 : a.eval (.tmp 0) = _ := hsu 0 (by decide)
              simp [Act.eval] at z0
              exact ⟨_, rfl, MonoA.float_val (by simp [execOp, z0, go_sem])⟩
            · rw [if_neg (by decide)]
              intro a u hbu hsu hdu
              have q1 := (HA4.out.ext hbu).cell 1; simp at q1
              exact Mono.ok_move (.tmp 0) rfl (hsu 0 (by decide))
            · rw [if_neg (by decide)]
              intro a u hbu hsu hdu
              have q1 := (HA4.out.ext hbu).cell 1; simp at q1
              have z28 : a.eval (.tmp 28) = .pointer (some ⟨g, 0, none⟩) := Mono.dep_at hdu (i := 1) (d := 28) rfl rfl rfl
              simp [Act.eval] at z28
              exact Mono.ok_val (.pointer (some ⟨g, 0, none⟩)) (by simp [execOp, z28, go_sem, q1]) rfl
            · rw [if_neg (by decide)]
              intro a u hbu hsu hdu
              have q1 := (HA4.out.ext hbu).cell 1; simp at q1
              have z29 : a.eval (.tmp 29) = .pointer (some ⟨g, 0, none⟩) := Mono.dep_at hdu (i := 2) (d := 29) rfl rfl rfl
              simp [Act.eval] at z29
              exact Mono.ok_val (.pointer (some ⟨g, 1, none⟩)) (by simp [execOp, z29, go_sem, q1]) rfl
            · rw [if_neg (by decide)]
              intro a u hbu hsu hdu
              have q1 := (HA4.out.ext hbu).cell 1; simp at q1
              have z30 : a.eval (.tmp 30) = .pointer (some ⟨g, 1, none⟩) := Mono.dep_at hdu (i := 3) (d := 30) rfl rfl rfl
              simp [Act.eval] at z30
              exact Mono.ok_val (.slice pl d cl) (by simp [execOp, z30, go_sem, q1]) rfl
            · rw [if_neg (by decide)]
              intro a u hbu hsu hdu
              have q1 := (HA4.out.ext hbu).cell 1; simp at q1
              exact Mono.ok_move (.tmp 2) rfl (hsu 2 (by decide))
            · rw [if_neg (by decide)]
              intro a u hbu hsu hdu
              have q1 := (HA4.out.ext hbu).cell 1; simp at q1
              exact Mono.ok_loadE 41 (.tmp 7) rfl h 0 (row el (.slice pd an md)).toArray _ (range_head5 (HT4.out.ext hbu)) Try.underlying41 rfl (by kernel_rfl) (hsu 7 (by decide)) rfl
            · rw [if_neg (by decide)]
              intro a u hbu hsu hdu
              have q1 := (HA4.out.ext hbu).cell 1; simp at q1
              have z32 : a.eval (.tmp 32) = .int .i64 (d : Int) := Mono.dep_at hdu (i := 5) (d := 32) rfl rfl rfl
              simp [Act.eval] at z32
              have z33 : a.eval (.tmp 33) = .agg (row el (.slice pd an md)).toArray := Mono.dep_at hdu (i := 6) (d := 33) rfl rfl rfl
              simp [Act.eval] at z33
              exact Mono.ok_build 46 _ rfl #[(0, .int .i64 (d : Int)), (1, .agg (row el (.slice pd an md)).toArray)] (by simp [z32, z33, Act.eval]) (.agg (rowI ((d : Int), el) (.slice pd an md)).toArray) (by kernel_rfl) rfl
            · rw [if_neg (by decide)]
              intro a u hbu hsu hdu
              have q1 := (HA4.out.ext hbu).cell 1; simp at q1
              have e1 : a.eval (.tmp 34) = .agg (rowI ((d : Int), el) (.slice pd an md)).toArray := Mono.dep_at hdu (i := 7) (d := 34) rfl rfl rfl
              have hbz := (Below.refl u.heap.size u).alloc (Nat.le_refl _) (.cells (rowI ((d : Int), el) (.slice pd an md)).toArray 46)
              exact Mem.wp_build 42 1 (.tmp 34) rfl _ _ _ e1 (build42 ((d : Int), el) (.slice pd an md) u) ⟨_, rfl, hbz, _, rfl, At.new u 46 _⟩
          · intro a u hbu hsu hdu
            have q1 := (HA4.out.ext hbu).cell 1; simp at q1
            have z31 : a.eval (.tmp 31) = .slice pl d cl := Mono.dep_at hdu (i := 4) (d := 31) rfl rfl rfl
            obtain ⟨g0, e0, hat0⟩ : (oneI ((d : Int), el) (.slice pd an md)).R (a.eval (.tmp 35)) u := Mono.dep_at hdu (i := 8) (d := 35) rfl rfl rfl
            obtain ⟨v0, x0, hrun0, hm0⟩ := midI HI4.out HA4.out hbu hat0 (HAN.out ▸ HRD4.out) (HAN.out ▸ HAP.out) HBS4.out hlen
            exact wp_appendV 42 (.tmp 31) (.tmp 35) rfl _ _ _ _ z31 e0 hrun0 ⟨_, rfl, hm0⟩
          · simp only [MonoA.FloatGoals, List.drop_succ_cons, List.drop_zero, List.dropLast_cons_cons, List.dropLast_singleton, and_true]
            refine ⟨?_, ?_⟩
            · intro a u hsu hdu
              have z27 : a.eval (.tmp 27) = .pointer (some ⟨g, 0, none⟩) := Mono.dep_at hdu (i := 0) (d := 27) rfl rfl rfl
              simp [Act.eval] at z27
              exact ⟨_, rfl, MonoA.float_val (by simp [execOp, z27, go_sem])⟩
            · intro a u hsu hdu
              have z37 : a.eval (.tmp 37) = .pointer (some ⟨g, 0, none⟩) := Mono.dep_at hdu (i := 10) (d := 37) rfl rfl rfl
              simp [Act.eval] at z37
              exact ⟨_, rfl, MonoA.float_val (by simp [execOp, z37, go_sem])⟩
          · intro a u v hmid hv hsu hdu
            have zp : a.eval (.tmp 38) = .pointer (some ⟨g, 1, none⟩) := Mono.dep_at hdu (i := 11) (d := 38) rfl rfl rfl
            exact wp_storeC 42 (.tmp 38) (.tmp 36) rfl rfl g 1 63 _ _ v zp hv hmid.row (by show (1 : Nat) < 2; decide) (by kernel_rfl) hmid.one rfl (fun y hat hg => ⟨undef, rfl, _, hmid, hg, hat⟩)
          intro v x hfin us
          obtain ⟨hat8, hi8, hb8, hr8, hk8, hs8⟩ := FinI.done hfin HI4.out ⟨_, _, _, rfl⟩ HBS4.out HBB.out.1
          have HA8 := Lib.hid hat8
          have HI8 := Lib.hid hi8
          have HB8 := Lib.hid (HB4.out.trans hb8)
          have HT8 := Lib.hid (hk8 h 41 _ HT4.out (by decide) (by decide))
          have HRD8 := Lib.hid (hr8 _ _ HRD4.out HAP.out)
          have HCO8 := Lib.hid ((HB8.out.cell (p := ⟨bg, og, none⟩) HBB.out.2.2.1).trans HCODE.out)
          have HBG8 := Lib.hid (show bg < x.heap.size from Nat.lt_of_lt_of_le HBB.out.2.2.1 (Nat.le_trans HBS4.out hs8))
          have HIL8 := Lib.hid (show (its ++ [((d : Int), el)]).length = d + 1 by rw [List.length_append, HIL.out]; rfl)
          have HBS8 := Lib.hid (Nat.le_trans HBS4.out hs8)
          clear hfin hat8 hi8 hb8 hr8 hk8 hs8 HA4 HI4 HT4 HRD4 HCO4 HC4 g1 hlen
          simp [Act.put, MonoU.pick]
          by_cases hj : j = 0
          · have HJ := Lib.hid hj
            have HCB := Lib.hid (show decide (el.code = code) = false by rw [HCD.out, if_pos hj]; exact decide_eq_false N.ne)
            clear hj
            go_upto_region 8 with fail
            refine Mono.wp_region_mono [some 39, some 40, some 41, some 42, some 43, some 44, some 45, some 46, some 47, some 48, some 49, some 50, some 51] [Mono.isV (.pointer (some ⟨h, 1, none⟩)), Mono.isV (.int .u32 0), Mono.isV (.bool false), Mono.isV (.bool false), Mono.isV (.pointer (some ⟨g, 0, none⟩)), Mono.isV (.pointer (some ⟨g, 0, none⟩)), Mono.isV (.pointer (some ⟨g, 0, none⟩)), Mono.isV (.slice (some ⟨bg, og, none⟩) 1 cg), Mono.isV (.pointer (some ⟨h, 0, none⟩)), Mono.isV (.int .u32 el.code), Mono.isV (.bool false), Mono.isV (.bool true), Mono.isV (.bool true)] (by kernel_rfl) (by kernel_rfl) ?_ ?_
            · simp only [Mono.OpGoals, and_true]
              refine ⟨?_, ?_, ?_, ?_, ?_, ?_, ?_, ?_, ?_, ?_, ?_, ?_, ?_⟩
              · intro a u hbu hsu hdu
                have m0 := (HT8.out.ext hbu).cell 0; have m1 := (HT8.out.ext hbu).cell 1; have q0 := (HA8.out.ext hbu).cell 0; simp [row] at m0 m1 q0; rw [HVN.out] at m1
                refine Mono.if_want rfl ?_
                have z7 : a.eval (.tmp 7) = .pointer (some ⟨h, 0, none⟩) := hsu 7 (by decide)
                simp [Act.eval] at z7
                exact Mono.ok_val (.pointer (some ⟨h, 1, none⟩)) (by simp [execOp, z7, go_sem, m0, m1, q0]) rfl
              · intro a u hbu hsu hdu
                have m0 := (HT8.out.ext hbu).cell 0; have m1 := (HT8.out.ext hbu).cell 1; have q0 := (HA8.out.ext hbu).cell 0; simp [row] at m0 m1 q0; rw [HVN.out] at m1
                refine Mono.if_want rfl ?_
                have z39 : a.eval (.tmp 39) = .pointer (some ⟨h, 1, none⟩) := Mono.dep_at hdu (i := 0) (d := 39) rfl rfl rfl
                simp [Act.eval] at z39
                exact Mono.ok_val (.int .u32 0) (by simp [execOp, z39, go_sem, m0, m1, q0]) rfl
              · intro a u hbu hsu hdu
                have m0 := (HT8.out.ext hbu).cell 0; have m1 := (HT8.out.ext hbu).cell 1; have q0 := (HA8.out.ext hbu).cell 0; simp [row] at m0 m1 q0; rw [HVN.out] at m1
                refine Mono.if_want rfl ?_
                have z40 : a.eval (.tmp 40) = .int .u32 0 := Mono.dep_at hdu (i := 1) (d := 40) rfl rfl rfl
                simp [Act.eval] at z40
                exact Mono.ok_val (.bool false) (by simp [execOp, z40, go_sem, m0, m1, q0]) rfl
              · intro a u hbu hsu hdu
                have m0 := (HT8.out.ext hbu).cell 0; have m1 := (HT8.out.ext hbu).cell 1; have q0 := (HA8.out.ext hbu).cell 0; simp [row] at m0 m1 q0; rw [HVN.out] at m1
                refine Mono.if_want rfl ?_
                exact Mono.ok_move (.tmp 41) rfl (Mono.dep_at hdu (i := 2) (d := 41) rfl rfl rfl)
              · intro a u hbu hsu hdu
                have m0 := (HT8.out.ext hbu).cell 0; have m1 := (HT8.out.ext hbu).cell 1; have q0 := (HA8.out.ext hbu).cell 0; simp [row] at m0 m1 q0; rw [HVN.out] at m1
                refine Mono.if_want (Mono.want_at (c := false) rfl rfl (Mono.dep_at hdu (i := 3) (d := 42) rfl rfl rfl) rfl) ?_
                exact Mono.ok_move (.tmp 0) rfl (hsu 0 (by decide))
              · intro a u hbu hsu hdu
                have m0 := (HT8.out.ext hbu).cell 0; have m1 := (HT8.out.ext hbu).cell 1; have q0 := (HA8.out.ext hbu).cell 0; simp [row] at m0 m1 q0; rw [HVN.out] at m1
                refine Mono.if_want (Mono.want_at (c := false) rfl rfl (Mono.dep_at hdu (i := 3) (d := 42) rfl rfl rfl) rfl) ?_
                have z43 : a.eval (.tmp 43) = .pointer (some ⟨g, 0, none⟩) := Mono.dep_at hdu (i := 4) (d := 43) rfl rfl rfl
                simp [Act.eval] at z43
                exact Mono.ok_val (.pointer (some ⟨g, 0, none⟩)) (by simp [execOp, z43, go_sem, m0, m1, q0]) rfl
              · intro a u hbu hsu hdu
                have m0 := (HT8.out.ext hbu).cell 0; have m1 := (HT8.out.ext hbu).cell 1; have q0 := (HA8.out.ext hbu).cell 0; simp [row] at m0 m1 q0; rw [HVN.out] at m1
                refine Mono.if_want (Mono.want_at (c := false) rfl rfl (Mono.dep_at hdu (i := 3) (d := 42) rfl rfl rfl) rfl) ?_
                have z44 : a.eval (.tmp 44) = .pointer (some ⟨g, 0, none⟩) := Mono.dep_at hdu (i := 5) (d := 44) rfl rfl rfl
                simp [Act.eval] at z44
                exact Mono.ok_val (.pointer (some ⟨g, 0, none⟩)) (by simp [execOp, z44, go_sem, m0, m1, q0]) rfl
              · intro a u hbu hsu hdu
                have m0 := (HT8.out.ext hbu).cell 0; have m1 := (HT8.out.ext hbu).cell 1; have q0 := (HA8.out.ext hbu).cell 0; simp [row] at m0 m1 q0; rw [HVN.out] at m1
                refine Mono.if_want (Mono.want_at (c := false) rfl rfl (Mono.dep_at hdu (i := 3) (d := 42) rfl rfl rfl) rfl) ?_
                have z45 : a.eval (.tmp 45) = .pointer (some ⟨g, 0, none⟩) := Mono.dep_at hdu (i := 6) (d := 45) rfl rfl rfl
                simp [Act.eval] at z45
                exact Mono.ok_val (.slice (some ⟨bg, og, none⟩) 1 cg) (by simp [execOp, z45, go_sem, m0, m1, q0]) rfl
              · intro a u hbu hsu hdu
                have m0 := (HT8.out.ext hbu).cell 0; have m1 := (HT8.out.ext hbu).cell 1; have q0 := (HA8.out.ext hbu).cell 0; simp [row] at m0 m1 q0; rw [HVN.out] at m1
                refine Mono.if_want (Mono.want_at (c := false) rfl rfl (Mono.dep_at hdu (i := 3) (d := 42) rfl rfl rfl) rfl) ?_
                have z7 : a.eval (.tmp 7) = .pointer (some ⟨h, 0, none⟩) := hsu 7 (by decide)
                simp [Act.eval] at z7
                exact Mono.ok_val (.pointer (some ⟨h, 0, none⟩)) (by simp [execOp, z7, go_sem, m0, m1, q0]) rfl
              · intro a u hbu hsu hdu
                have m0 := (HT8.out.ext hbu).cell 0; have m1 := (HT8.out.ext hbu).cell 1; have q0 := (HA8.out.ext hbu).cell 0; simp [row] at m0 m1 q0; rw [HVN.out] at m1
                refine Mono.if_want (Mono.want_at (c := false) rfl rfl (Mono.dep_at hdu (i := 3) (d := 42) rfl rfl rfl) rfl) ?_
                have z47 : a.eval (.tmp 47) = .pointer (some ⟨h, 0, none⟩) := Mono.dep_at hdu (i := 8) (d := 47) rfl rfl rfl
                simp [Act.eval] at z47
                exact Mono.ok_val (.int .u32 el.code) (by simp [execOp, z47, go_sem, m0, m1, q0]) rfl
              · intro a u hbu hsu hdu
                have m0 := (HT8.out.ext hbu).cell 0; have m1 := (HT8.out.ext hbu).cell 1; have q0 := (HA8.out.ext hbu).cell 0; simp [row] at m0 m1 q0; rw [HVN.out] at m1
                refine Mono.if_want (Mono.want_at (c := false) rfl rfl (Mono.dep_at hdu (i := 3) (d := 42) rfl rfl rfl) rfl) ?_
                have z46 : a.eval (.tmp 46) = .slice (some ⟨bg, og, none⟩) 1 cg := Mono.dep_at hdu (i := 7) (d := 46) rfl rfl rfl
                have z48 : a.eval (.tmp 48) = .int .u32 el.code := Mono.dep_at hdu (i := 9) (d := 48) rfl rfl rfl
                simp [Act.eval] at z46 z48
                exact Mono.ok_call 35 _ _ rfl #[.slice (some ⟨bg, og, none⟩) 1 cg, .int .u32 el.code] (by simp [execOp, z46, z48, go_sem]) ((contains35 u bg og cg code el.code ((hbu.cell (p := ⟨bg, og, none⟩) HBG8.out).trans HCO8.out) (Nat.lt_of_lt_of_le HBG8.out hbu.size) hcg).mono (by rintro e w' ⟨rfl, hh⟩; exact ⟨_, rfl, hh, by rw [HCB.out]; rfl⟩))
              · intro a u hbu hsu hdu
                have m0 := (HT8.out.ext hbu).cell 0; have m1 := (HT8.out.ext hbu).cell 1; have q0 := (HA8.out.ext hbu).cell 0; simp [row] at m0 m1 q0; rw [HVN.out] at m1
                refine Mono.if_want (Mono.want_at (c := false) rfl rfl (Mono.dep_at hdu (i := 3) (d := 42) rfl rfl rfl) rfl) ?_
                have z49 : a.eval (.tmp 49) = .bool false := Mono.dep_at hdu (i := 10) (d := 49) rfl rfl rfl
                simp [Act.eval] at z49
                exact Mono.ok_val (.bool true) (by simp [execOp, z49, go_sem, m0, m1, q0]) rfl
              · intro a u hbu hsu hdu
                have m0 := (HT8.out.ext hbu).cell 0; have m1 := (HT8.out.ext hbu).cell 1; have q0 := (HA8.out.ext hbu).cell 0; simp [row] at m0 m1 q0; rw [HVN.out] at m1
                refine Mono.if_want rfl ?_
                have z42 : a.eval (.tmp 42) = .bool false := Mono.dep_at hdu (i := 3) (d := 42) rfl rfl rfl
                simp [Act.eval] at z42
                have z50 : a.eval (.tmp 50) = .bool true := Mono.dep_at hdu (i := 11) (d := 50) rfl rfl rfl
                simp [Act.eval] at z50
                exact Mono.ok_val (.bool true) (by simp [execOp, z42, z50, go_sem, m0, m1, q0]) rfl
            intro u hu
            simp only [Mono.Fin]
            rintro _ rfl _ rfl _ rfl _ rfl _ rfl _ rfl _ rfl _ rfl _ rfl _ rfl _ rfl _ rfl _ rfl
            simp [Act.put]
            have HA9 := Lib.hid (HA8.out.ext hu)
            have HI9 := Lib.hid (HI8.out.below hu)
            have HB9 := Lib.hid (HB8.out.trans (hu.mono HBS8.out))
            clear hu
            go_wp2_with fail
            go_roundw
            case rel => exact ⟨1, rfl, by omega, HB9, Lib.hid (fun h => by omega), Lib.hid (fun _ => ⟨by have := HJ.out; omega, v, HA9.out, by
              have e : itsF code c1 data (d : Int) j = [((d : Int), el)] := by rw [← HAA.out, HJ.out]; rfl
              rw [e]; exact HI9.out⟩)⟩
            case measure => simp [intOf]
          · have HCB := Lib.hid (show decide (el.code = code) = true by rw [HCD.out, if_neg hj]; exact decide_eq_true rfl)
            obtain ⟨j', hj'⟩ : ∃ j', j = j' + 1 := ⟨j - 1, by omega⟩
            have HJ := Lib.hid hj'
            have HDT := Lib.hid (show el.data = encAll 0 0 [nestA code c1 data j'] by rw [← HAA.out, hj']; rfl)
            have HDW := Lib.hid (show ∀ z ∈ el.data, 0 ≤ z ∧ z ≤ 255 by rw [← HAA.out]; exact (nest_ok N j).2.2)
            have hdj' : d + 1 + j' ≤ 20 := by omega
            clear hj hj'
            go_upto_region 8 with fail
            refine Mono.wp_region_mono [some 39, some 40, some 41, some 42, some 43, some 44, some 45, some 46, some 47, some 48, some 49, some 50, some 51] [Mono.isV (.pointer (some ⟨h, 1, none⟩)), Mono.isV (.int .u32 0), Mono.isV (.bool false), Mono.isV (.bool false), Mono.isV (.pointer (some ⟨g, 0, none⟩)), Mono.isV (.pointer (some ⟨g, 0, none⟩)), Mono.isV (.pointer (some ⟨g, 0, none⟩)), Mono.isV (.slice (some ⟨bg, og, none⟩) 1 cg), Mono.isV (.pointer (some ⟨h, 0, none⟩)), Mono.isV (.int .u32 el.code), Mono.isV (.bool true), Mono.isV (.bool false), Mono.isV (.bool false)] (by kernel_rfl) (by kernel_rfl) ?_ ?_
            · simp only [Mono.OpGoals, and_true]
              refine ⟨?_, ?_, ?_, ?_, ?_, ?_, ?_, ?_, ?_, ?_, ?_, ?_, ?_⟩
              · intro a u hbu hsu hdu
                have m0 := (HT8.out.ext hbu).cell 0; have m1 := (HT8.out.ext hbu).cell 1; have q0 := (HA8.out.ext hbu).cell 0; simp [row] at m0 m1 q0; rw [HVN.out] at m1
                refine Mono.if_want rfl ?_
                have z7 : a.eval (.tmp 7) = .pointer (some ⟨h, 0, none⟩) := hsu 7 (by decide)
                simp [Act.eval] at z7
                exact Mono.ok_val (.pointer (some ⟨h, 1, none⟩)) (by simp [execOp, z7, go_sem, m0, m1, q0]) rfl
              · intro a u hbu hsu hdu
                have m0 := (HT8.out.ext hbu).cell 0; have m1 := (HT8.out.ext hbu).cell 1; have q0 := (HA8.out.ext hbu).cell 0; simp [row] at m0 m1 q0; rw [HVN.out] at m1
                refine Mono.if_want rfl ?_
                have z39 : a.eval (.tmp 39) = .pointer (some ⟨h, 1, none⟩) := Mono.dep_at hdu (i := 0) (d := 39) rfl rfl rfl
                simp [Act.eval] at z39
                exact Mono.ok_val (.int .u32 0) (by simp [execOp, z39, go_sem, m0, m1, q0]) rfl
              · intro a u hbu hsu hdu
                have m0 := (HT8.out.ext hbu).cell 0; have m1 := (HT8.out.ext hbu).cell 1; have q0 := (HA8.out.ext hbu).cell 0; simp [row] at m0 m1 q0; rw [HVN.out] at m1
                refine Mono.if_want rfl ?_
                have z40 : a.eval (.tmp 40) = .int .u32 0 := Mono.dep_at hdu (i := 1) (d := 40) rfl rfl rfl
                simp [Act.eval] at z40
                exact Mono.ok_val (.bool false) (by simp [execOp, z40, go_sem, m0, m1, q0]) rfl
              · intro a u hbu hsu hdu
                have m0 := (HT8.out.ext hbu).cell 0; have m1 := (HT8.out.ext hbu).cell 1; have q0 := (HA8.out.ext hbu).cell 0; simp [row] at m0 m1 q0; rw [HVN.out] at m1
                refine Mono.if_want rfl ?_
                exact Mono.ok_move (.tmp 41) rfl (Mono.dep_at hdu (i := 2) (d := 41) rfl rfl rfl)
              · intro a u hbu hsu hdu
                have m0 := (HT8.out.ext hbu).cell 0; have m1 := (HT8.out.ext hbu).cell 1; have q0 := (HA8.out.ext hbu).cell 0; simp [row] at m0 m1 q0; rw [HVN.out] at m1
                refine Mono.if_want (Mono.want_at (c := false) rfl rfl (Mono.dep_at hdu (i := 3) (d := 42) rfl rfl rfl) rfl) ?_
                exact Mono.ok_move (.tmp 0) rfl (hsu 0 (by decide))
              · intro a u hbu hsu hdu
                have m0 := (HT8.out.ext hbu).cell 0; have m1 := (HT8.out.ext hbu).cell 1; have q0 := (HA8.out.ext hbu).cell 0; simp [row] at m0 m1 q0; rw [HVN.out] at m1
                refine Mono.if_want (Mono.want_at (c := false) rfl rfl (Mono.dep_at hdu (i := 3) (d := 42) rfl rfl rfl) rfl) ?_
                have z43 : a.eval (.tmp 43) = .pointer (some ⟨g, 0, none⟩) := Mono.dep_at hdu (i := 4) (d := 43) rfl rfl rfl
                simp [Act.eval] at z43
                exact Mono.ok_val (.pointer (some ⟨g, 0, none⟩)) (by simp [execOp, z43, go_sem, m0, m1, q0]) rfl
              · intro a u hbu hsu hdu
                have m0 := (HT8.out.ext hbu).cell 0; have m1 := (HT8.out.ext hbu).cell 1; have q0 := (HA8.out.ext hbu).cell 0; simp [row] at m0 m1 q0; rw [HVN.out] at m1
                refine Mono.if_want (Mono.want_at (c := false) rfl rfl (Mono.dep_at hdu (i := 3) (d := 42) rfl rfl rfl) rfl) ?_
                have z44 : a.eval (.tmp 44) = .pointer (some ⟨g, 0, none⟩) := Mono.dep_at hdu (i := 5) (d := 44) rfl rfl rfl
                simp [Act.eval] at z44
                exact Mono.ok_val (.pointer (some ⟨g, 0, none⟩)) (by simp [execOp, z44, go_sem, m0, m1, q0]) rfl
              · intro a u hbu hsu hdu
                have m0 := (HT8.out.ext hbu).cell 0; have m1 := (HT8.out.ext hbu).cell 1; have q0 := (HA8.out.ext hbu).cell 0; simp [row] at m0 m1 q0; rw [HVN.out] at m1
                refine Mono.if_want (Mono.want_at (c := false) rfl rfl (Mono.dep_at hdu (i := 3) (d := 42) rfl rfl rfl) rfl) ?_
                have z45 : a.eval (.tmp 45) = .pointer (some ⟨g, 0, none⟩) := Mono.dep_at hdu (i := 6) (d := 45) rfl rfl rfl
                simp [Act.eval] at z45
                exact Mono.ok_val (.slice (some ⟨bg, og, none⟩) 1 cg) (by simp [execOp, z45, go_sem, m0, m1, q0]) rfl
              · intro a u hbu hsu hdu
                have m0 := (HT8.out.ext hbu).cell 0; have m1 := (HT8.out.ext hbu).cell 1; have q0 := (HA8.out.ext hbu).cell 0; simp [row] at m0 m1 q0; rw [HVN.out] at m1
                refine Mono.if_want (Mono.want_at (c := false) rfl rfl (Mono.dep_at hdu (i := 3) (d := 42) rfl rfl rfl) rfl) ?_
                have z7 : a.eval (.tmp 7) = .pointer (some ⟨h, 0, none⟩) := hsu 7 (by decide)
                simp [Act.eval] at z7
                exact Mono.ok_val (.pointer (some ⟨h, 0, none⟩)) (by simp [execOp, z7, go_sem, m0, m1, q0]) rfl
              · intro a u hbu hsu hdu
                have m0 := (HT8.out.ext hbu).cell 0; have m1 := (HT8.out.ext hbu).cell 1; have q0 := (HA8.out.ext hbu).cell 0; simp [row] at m0 m1 q0; rw [HVN.out] at m1
                refine Mono.if_want (Mono.want_at (c := false) rfl rfl (Mono.dep_at hdu (i := 3) (d := 42) rfl rfl rfl) rfl) ?_
                have z47 : a.eval (.tmp 47) = .pointer (some ⟨h, 0, none⟩) := Mono.dep_at hdu (i := 8) (d := 47) rfl rfl rfl
                simp [Act.eval] at z47
                exact Mono.ok_val (.int .u32 el.code) (by simp [execOp, z47, go_sem, m0, m1, q0]) rfl
              · intro a u hbu hsu hdu
                have m0 := (HT8.out.ext hbu).cell 0; have m1 := (HT8.out.ext hbu).cell 1; have q0 := (HA8.out.ext hbu).cell 0; simp [row] at m0 m1 q0; rw [HVN.out] at m1
                refine Mono.if_want (Mono.want_at (c := false) rfl rfl (Mono.dep_at hdu (i := 3) (d := 42) rfl rfl rfl) rfl) ?_
                have z46 : a.eval (.tmp 46) = .slice (some ⟨bg, og, none⟩) 1 cg := Mono.dep_at hdu (i := 7) (d := 46) rfl rfl rfl
                have z48 : a.eval (.tmp 48) = .int .u32 el.code := Mono.dep_at hdu (i := 9) (d := 48) rfl rfl rfl
                simp [Act.eval] at z46 z48
                exact Mono.ok_call 35 _ _ rfl #[.slice (some ⟨bg, og, none⟩) 1 cg, .int .u32 el.code] (by simp [execOp, z46, z48, go_sem]) ((contains35 u bg og cg code el.code ((hbu.cell (p := ⟨bg, og, none⟩) HBG8.out).trans HCO8.out) (Nat.lt_of_lt_of_le HBG8.out hbu.size) hcg).mono (by rintro e w' ⟨rfl, hh⟩; exact ⟨_, rfl, hh, by rw [HCB.out]; rfl⟩))
              · intro a u hbu hsu hdu
                have m0 := (HT8.out.ext hbu).cell 0; have m1 := (HT8.out.ext hbu).cell 1; have q0 := (HA8.out.ext hbu).cell 0; simp [row] at m0 m1 q0; rw [HVN.out] at m1
                refine Mono.if_want (Mono.want_at (c := false) rfl rfl (Mono.dep_at hdu (i := 3) (d := 42) rfl rfl rfl) rfl) ?_
                have z49 : a.eval (.tmp 49) = .bool true := Mono.dep_at hdu (i := 10) (d := 49) rfl rfl rfl
                simp [Act.eval] at z49
                exact Mono.ok_val (.bool false) (by simp [execOp, z49, go_sem, m0, m1, q0]) rfl
              · intro a u hbu hsu hdu
                have m0 := (HT8.out.ext hbu).cell 0; have m1 := (HT8.out.ext hbu).cell 1; have q0 := (HA8.out.ext hbu).cell 0; simp [row] at m0 m1 q0; rw [HVN.out] at m1
                refine Mono.if_want rfl ?_
                have z42 : a.eval (.tmp 42) = .bool false := Mono.dep_at hdu (i := 3) (d := 42) rfl rfl rfl
                simp [Act.eval] at z42
                have z50 : a.eval (.tmp 50) = .bool false := Mono.dep_at hdu (i := 11) (d := 50) rfl rfl rfl
                simp [Act.eval] at z50
                exact Mono.ok_val (.bool false) (by simp [execOp, z42, z50, go_sem, m0, m1, q0]) rfl
            intro u hu
            simp only [Mono.Fin]
            rintro _ rfl _ rfl _ rfl _ rfl _ rfl _ rfl _ rfl _ rfl _ rfl _ rfl _ rfl _ rfl _ rfl
            simp [Act.put]
            have HA9 := Lib.hid (HA8.out.ext hu)
            have HI9 := Lib.hid (HI8.out.below hu)
            have HB9 := Lib.hid (HB8.out.trans (hu.mono HBS8.out))
            have HRD9 := Lib.hid (HRD8.out.below hu)
            have HT9 := Lib.hid (HT8.out.ext hu)
            have HBS9 := Lib.hid (Nat.le_trans HBS8.out hu.size)
            have PG := Lib.hid (show Calls Try.prog 12 #[.slice pd an md] _ (GetDs _ ([nestA code c1 data j'], 0, 0)) by have := avpGetD _ _ _ HRD9.out HDW.out; rwa [HDT.out, nest_get N (by omega)] at this)
            have m4 := HT9.out.cell 4
            simp [row] at m4
            clear hu HA8 HI8 HB8 HRD8 HT8 HBG8 HCO8 HBS8
            go_upto_region 12 with (go_at_call 12; go_must (refine PG.out.mono ?_; rintro e w10 ⟨v10, rfl, hv10, hb10⟩; have HV10 := Lib.hid hv10; have HA10 := Lib.hid (HA9.out.ext hb10); have HI10 := Lib.hid (HI9.out.below hb10); have HB10 := Lib.hid (HB9.out.trans (hb10.mono HBS9.out)); have HBS10 := Lib.hid (Nat.le_trans HBS9.out hb10.size); clear hv10 hb10))
            obtain ⟨q, cq, pq, mq, hvq, hcq, hqlt, hrq, hrdq, hfq⟩ := ownD_one HV10.out
            subst hvq
            have hapq : ApartI v (nestA code c1 data j').data (.slice pq (nestA code c1 data j').data.length mq) := fun h0 k hk e => by
              have h1 := hfq h0 k e
              have h2 := (HI9.out.lt k hk).2
              omega
            have PR := Lib.hid (show Calls Try.prog 29 #[.pointer (some ⟨g, 0, none⟩), .slice (some ⟨q, 0, none⟩) 1 cq, .int .i64 ((d : Int) + 1)] w10 (OpenIs w10 B g (.slice (some ⟨bg, og, none⟩) 1 cg) (its ++ [((d : Int), el)]) (itsF code c1 data ((d : Int) + 1) j') (d + 1 + j')) from
              HIH.out j' (by have := HJ.out; omega) (d + 1) w10 B g q 0 cq v (its ++ [((d : Int), el)]) pq mq HA10.out HBB.out.1 HBS10.out HBB.out.2.2.1 ((HB10.out.cell (p := ⟨bg, og, none⟩) HBB.out.2.2.1).trans HCODE.out) HI10.out HIL8.out hdj' hcq hqlt hrq hrdq hapq)
            clear hcq hqlt hrq hrdq hfq hapq HV10 HIH PG
            have hd8 : (d : Int) + 1 ≤ 100 := by omega
            by_cases hm : d + 1 + j' < 8
            · have HMM := Lib.hid hm
              have PR2 := Lib.hid (show Calls Try.prog 29 #[.pointer (some ⟨g, 0, none⟩), .slice (some ⟨q, 0, none⟩) 1 cq, .int .i64 ((d : Int) + 1)] w10 (fun e w' => Below B w10 w' ∧ e = .returned (.tuple #[]) ∧ ∃ lv', At w' g 63 #[.slice (some ⟨bg, og, none⟩) 1 cg, lv'] ∧ OwnI B w' lv' ((its ++ [((d : Int), el)]) ++ itsF code c1 data ((d : Int) + 1) j')) from PR.out.mono (fun e w' ⟨h1, h2⟩ => ⟨h1, h2.elim (fun h => h.2) (fun h => absurd hm (by omega))⟩))
              clear PR hm
              go_wp2_with (go_at_call 29; go_must (refine PR2.out.mono ?_; rintro e w11 ⟨hb11, rfl, lv', hat11, hi11⟩; have HB11 := Lib.hid (HB10.out.trans hb11); have HA11 := Lib.hid hat11; have HI11 := Lib.hid hi11; clear hb11 hat11 hi11))
              go_roundw
              case rel => exact ⟨1, rfl, by omega, HB11, Lib.hid (fun h => by omega), Lib.hid (fun _ => ⟨by have := HJ.out; have := HMM.out; omega, lv', HA11.out, by
                have e : itsF code c1 data (d : Int) j = ((d : Int), el) :: itsF code c1 data ((d : Int) + 1) j' := by rw [← HAA.out, HJ.out]; rfl
                rw [e]
                have := HI11.out
                rw [List.append_assoc] at this
                exact this⟩)⟩
              case measure => simp [intOf]
            · have HMM := Lib.hid hm
              have PR2 := Lib.hid (show Calls Try.prog 29 #[.pointer (some ⟨g, 0, none⟩), .slice (some ⟨q, 0, none⟩) 1 cq, .int .i64 ((d : Int) + 1)] w10 (fun e w' => Below B w10 w' ∧ e = .panicked [{ v := .iface 24 (.int .i64 12), recovered := false }]) from PR.out.mono (fun e w' ⟨h1, h2⟩ => ⟨h1, h2.elim (fun h => absurd h.1 hm) (fun h => h.2)⟩))
              clear PR hm
              go_wp2_with (go_at_call 29; go_must (refine PR2.out.mono ?_; rintro e w11 ⟨hb11, rfl⟩; have HB11 := Lib.hid (HB10.out.trans hb11); clear hb11))
              exact ⟨rfl, HB11.out, .inr ⟨by have := HJ.out; have := HMM.out; omega, rfl⟩⟩
      · have hi1 : i = 1 := by omega
        subst hi1
        have HX := Lib.hid (H1.out rfl)
        go_wp2_with fail
        go_end0
        exact ⟨HBL.out, .inl ⟨HX.out.1, rfl, HX.out.2⟩⟩
end Go.Proofs.Ytjfponhdlfhmbaa.Deep
