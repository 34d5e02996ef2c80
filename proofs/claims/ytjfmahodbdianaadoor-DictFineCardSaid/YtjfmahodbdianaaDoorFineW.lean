/-
  DictFine: the walk.
-/
import Derived.Test.YtjfmahodbdianaaDoorAppL
import Derived.Test.YtjfmahodbdianaaDoorLight
import Derived.Test.YtjfmahodbdianaaDoorRulesOK
import Derived.Deep.Cut
import Derived.Deep.CutBlock
import Derived.Deep.DeepCutAuto
namespace Go.Proofs.YtjfmahodbdianaaDoor.Dict
open Go.RowKit Mem Cells Ops Rule Avps Go.Maps
set_option linter.unusedVariables false
set_option linter.unusedSimpArgs false
/-- Of what lay, nothing but the block g has changed. -/
structure But (g : Nat) (a b : World) : Prop where
  os : b.os = a.os
  tape : b.tape = a.tape
  output : b.output = a.output
  size : a.heap.size ≤ b.heap.size
  block : ∀ k, k < a.heap.size → k ≠ g → b.heap[k]? = a.heap[k]?
theorem But.refl (g : Nat) (a : World) : But g a a := ⟨rfl, rfl, rfl, Nat.le_refl _, fun _ _ _ => rfl⟩
theorem But.below {g : Nat} {a b c : World} (h : But g a b) (hb : Below b.heap.size b c) : But g a c :=
  ⟨hb.os.trans h.os, hb.tape.trans h.tape, hb.output.trans h.output, Nat.le_trans h.size hb.size, fun k hk hg => (hb.block k (Nat.lt_of_lt_of_le hk h.size)).trans (h.block k hk hg)⟩
theorem But.grown {g : Nat} {a b c : World} {r : Option Nat} (h : But g a b) (hb : b.grownBy c r) (hr : ∀ q, r = some q → q = g ∨ a.heap.size ≤ q) : But g a c :=
  ⟨hb.os.trans h.os, hb.tape.trans h.tape, hb.output.trans h.output, Nat.le_trans h.size hb.size, fun k hk hg => (hb.block k (Nat.lt_of_lt_of_le hk h.size) (fun e => by
    rcases hr k e.symm with e1 | e1
    · exact hg e1
    · omega)).trans (h.block k hk hg)⟩
theorem But.base {g : Nat} {w a b : World} (h : But g a b) (hw : Below w.heap.size w a) (hg : w.heap.size ≤ g) : Below w.heap.size w b :=
  hw.trans ⟨h.os, h.tape, h.output, h.size, fun k hk => h.block k (by have := hw.size; omega) (by omega)⟩
theorem But.cell {g : Nat} {a b : World} (h : But g a b) {p : Addr} (hp : p.block < a.heap.size) (hg : p.block ≠ g) : b.cell? p = a.cell? p := World.cell?_of_block (w := a) (h.block p.block hp hg)
theorem But.reads {k : IntKind} {g : Nat} {a b : World} (h : But g a b) {d : Value} {xs : List Int} (hr : Reads k a d xs) (hg : 0 < xs.length → d.ownBlock ≠ some g) : Reads k b d xs := by
  obtain ⟨p, c, rfl, h1, h2, h3, h4⟩ := hr
  refine ⟨p, c, rfl, h1, h2, h3, fun h0 => ?_⟩
  obtain ⟨bl, off, rfl, hlt, hc⟩ := h4 h0
  have hne : bl ≠ g := fun e => hg h0 (by rw [e]; rfl)
  exact ⟨bl, off, rfl, Nat.lt_of_lt_of_le hlt h.size, fun i hi => (h.cell (p := ⟨bl, off + i, none⟩) hlt hne).trans (hc i hi)⟩
theorem OwnD.but {g D T B : Nat} {a b : World} {v : Value} {al : List A} (h : OwnD D T B a v al) (hb : But g a b) (hB : g < B) (hD : g < D) : OwnD D T B b v al := by
  obtain ⟨zs, h1, h2, h3, h4⟩ := h
  refine ⟨zs, h1, fun z hz => ⟨hb.reads (h2 z hz).1 (fun h0 e => by have := h4 z hz h0 g e; omega), (h2 z hz).2⟩, ⟨h3.1, ?_⟩, h4⟩
  rcases h3.2 with hn | ⟨g', cap, cur, rfl, hbb, hgg, rest⟩
  · exact .inl hn
  · exact .inr ⟨g', cap, cur, rfl, hbb, by rw [hb.block g' (Array.getElem?_eq_some_iff.1 hgg).1 (by omega)]; exact hgg, rest⟩
def noMust (x : A) : A := ⟨x.code, x.vendor, false, x.prot, x.data⟩
set_option maxRecDepth 100000 in
set_option maxHeartbeats 6400000 in
theorem fine_ (rs : List R) (l : List A) (os : List Int) (x : A) (v u y : Value) (pd : Option Addr) (cd : Nat) (w : World) (hr : ReadsR w v rs) (hl : ReadsL w u l) (ho : Reads .u8 w y os) (hob : ∀ z ∈ os, 0 ≤ z ∧ z ≤ 255) (hx : x.ok ∧ x.data.length ≤ 140737488351232) (hxd : Reads .u8 w (.slice pd x.data.length cd) x.data)
    (hok : ∀ r ∈ rs, r.ok) (hla : ∀ x ∈ l, x.ok ∧ x.data.length ≤ 140737488351232) (ht : Lib.Utf8Tabs 0 1 w) :
    Calls Tryd.prog 4 #[v, u, y, .agg (row x (.slice pd x.data.length cd)).toArray] w fun e w' => e = .returned (.bool true) ∧ Below w.heap.size w w' := by
  obtain ⟨p1, c1, rfl, g1, g2⟩ := hr.shape
  obtain ⟨p2, c2, rfl, g3, g4⟩ := hl.shape
  obtain ⟨p3, c3, rfl, g5, g6, _, _⟩ := id ho
  have PA := Lib.hid (fun u => answers u)
  have HR := Lib.hid hr
  have HL := Lib.hid hl
  have HO := Lib.hid ho
  have HOB := Lib.hid hob
  have HXD := Lib.hid hxd
  obtain ⟨nr, hnr⟩ : ∃ n, rs.length = n := ⟨_, rfl⟩
  obtain ⟨nl, hnl⟩ : ∃ n, l.length = n := ⟨_, rfl⟩
  obtain ⟨no, hno⟩ : ∃ n, os.length = n := ⟨_, rfl⟩
  obtain ⟨nd, hnd⟩ : ∃ n, x.data.length = n := ⟨_, rfl⟩
  have hnr' : nr ≤ 9223372036854775807 := by unfold maxLen at g2; omega
  have hnl' : nl ≤ 9223372036854775807 := by unfold maxLen at g4; omega
  have hno' : no ≤ 9223372036854775807 := by unfold maxLen at g6; omega
  have PL := Lib.hid (fun u => light p1 p2 nr c1 nl c2 u hnr' hnl')
  by_cases hA : nr ≤ 80 ∧ nl ≤ 150
  · have eA : decide (nr ≤ 80 ∧ nl ≤ 150) = true := decide_eq_true hA
    rw [eA] at PL
    have PO1 := Lib.hid (fun q (hq : Below w.heap.size w q) => by
      have := Avp.ownD (.slice p2 l.length c2) l q (HL.out.below hq) (fun a ha => by have := (hla a ha).2; omega)
      rwa [List.take_of_length_le (by omega)] at this)
    have PJ1 := Lib.hid (fun (v u : Value) q (hq : Below w.heap.size w q) (h1 : ReadsR q v rs) (h2 : ReadsL q u l) =>
      judge Fit.fitF rs l v u q h1 h2 hok (fun x hx => ⟨(hla x hx).1, by have := (hla x hx).2; omega⟩) (fun x hx r hr _ => fitsAt r.type x.data q (Utf.tabs_below ht hq) (hla x hx).1.2.2 (by have := (hla x hx).2; omega)))
    have hxo : (noMust x).ok ∧ (noMust x).data.length ≤ 140737488351232 := hx
    have PJ2 := Lib.hid (fun (l' : List A) (hp : l'.Perm l) (hV : verdict Fit.fitF rs l = (2001, [], 0)) (hno : ∀ r ∈ rs, hitR x.code x.vendor r = false) (v u : Value) q (hq : Below w.heap.size w q) (h1 : ReadsR q v rs) (h2 : ReadsL q u (l' ++ [noMust x])) => by
      have hall : ∀ z ∈ l' ++ [noMust x], z.ok ∧ z.data.length ≤ 140737488351232 := fun z hz => by
        rcases List.mem_append.1 hz with hz | hz
        · exact hla z (hp.mem_iff.1 hz)
        · rw [List.mem_singleton] at hz; subst hz; exact hxo
      have := judge Fit.fitF rs (l' ++ [noMust x]) v u q h1 h2 hok (fun z hz => ⟨(hall z hz).1, by have := (hall z hz).2; omega⟩) (fun z hz r hr _ => fitsAt r.type z.data q (Utf.tabs_below ht hq) (hall z hz).1.2.2 (by have := (hall z hz).2; omega))
      rwa [verdict_perm Fit.fitF rs l l' (noMust x) hp hV rfl hno] at this)
    have ER := Lib.hid (fun k (hk : k < nr) u (h : ReadsR u (.slice p1 nr c1) rs) => by have := h.elem k (by rw [hnr]; exact hk); rwa [hnr] at this)
    obtain ⟨V1, hV1⟩ : ∃ V, verdict Fit.fitF rs l = V := ⟨_, rfl⟩
    rw [hV1] at PJ1 PJ2
    obtain ⟨C1, F1, E1⟩ := V1
    have HVC := Lib.hid (show E1 = 0 → C1 = 2001 → F1 = [] from fun h1 h2 => by
      by_cases h : sound rs
      · rcases verdict_cases Fit.fitF rs l h with ⟨k, x, n, _, _, _, hn, _, e⟩ | ⟨_, r, _, _, e⟩ | ⟨_, _, e⟩
        · rw [e] at hV1; cases hV1; exact absurd h2 hn
        · rw [e] at hV1; cases hV1; cases h2
        · rw [e] at hV1; cases hV1; rfl
      · rw [verdict_form h] at hV1; cases hV1; cases h1)
    have K1 := Lib.hid (show ([] : List R).length + rs.length ≤ maxLen by simp [maxLen]; omega)
    have K2 := Lib.hid (show (([] : List R).length + rs.length) * 40 ≤ 140737488355328 by simp; omega)
    have K3 := Lib.hid (show ([] : List Int).length + x.data.length ≤ maxLen by have := hx.2; simp [maxLen]; omega)
    have K4 := Lib.hid (show (([] : List Int).length + x.data.length) * 1 ≤ 140737488355328 by have := hx.2; simp; omega)
    have HR' : Hid (ReadsR w (.slice p1 nr c1) rs) := by rw [← hnr]; exact HR
    have HL' : Hid (ReadsL w (.slice p2 nl c2) l) := by rw [← hnl]; exact HL
    have HO' : Hid (Reads .u8 w (.slice p3 no c3) os) := by rw [← hno]; exact HO
    have HXD' : Hid (Reads .u8 w (.slice pd nd cd) x.data) := by rw [← hnd]; exact HXD
    rw [hnr, hnl, hno, hnd]
    rw [hnl] at PO1
    have HNR := Lib.hid hnr
    have HNL := Lib.hid hnl
    have HNO := Lib.hid hno
    have HND := Lib.hid hnd
    have HXO := Lib.hid hx.1
    obtain ⟨⟨xa, xb⟩, ⟨xc, xe⟩, _⟩ := hx.1
    have hl150 := hA.2
    have hr80 := hA.1
    clear HR HL HO HXD
    clear hr hl ho hob hx hxo hxd hok hla ht hV1 hA eA g1 g2 g3 g4 g5 g6 hnr hnl hno hnd
    go_enter Tryd.func4, Tryd.ntmps4
    go_upto_region 4 with (first
      | ((with_reducible refine wpl_boxAt rfl 35 (.tmp 3) rfl (row x (.slice pd nd cd)).toArray ?_ ?_); rfl; go_must (intro w0 hat0 hb0 hs0; clear hs0))
      | (go_at_call 8; go_must (refine (PA.out _).mono ?_; rintro e w1 ⟨rfl, hb1⟩; have hb1' := hb0.trans (hb1.mono hb0.size); have hat1 := hat0.ext hb1; clear hb1 hb0 hat0))
      | (go_at_call 9; go_must (refine (PL.out _).mono ?_; rintro e w2 ⟨rfl, hw2⟩; have hb2 : Below w.heap.size w w2 := (by rw [hw2]; exact hb1'); have hat2 : At w2 w.heap.size 35 (row x (.slice pd nd cd)).toArray := (by rw [hw2]; exact hat1); clear hb1' hw2 hat1))
      | ((with_reducible refine wpl_buildS rfl 22 0 #[] rfl #[] ?_ 37 #[] (fun _ => buildNone _) ?_); (simp); go_must (intro w3 hat hb3 hs3; clear hs3; have hown := ownR_of_at (B := w2.heap.size) [] (T := 37) (g := w2.heap.size) (w := w3) hat (Nat.le_refl _) (by simp); have hbl3 := hb2.trans (hb3.mono hb2.size); have hrr := HR'.out.below hbl3; clear hat))
      | (at_builtin; have _t := hrr; clear _t; go_must (obtain ⟨i40, z40, i1, i2, i3, i4, i5⟩ := info40; refine wpl_appendRR rfl (.tmp 30) (.tmp 31) 22 rfl w2.heap.size 37 40 i40 z40 Tryd.underlying22 i1 i2 i3 i4 i5 _ _ [] rs rfl rfl hown hrr K1.out K2.out (by have := hb3.size; omega) ?_; clear i1 i2 i3 i4 i5; intro v4 w4 hv4 hg4; rw [List.nil_append] at hv4; have ha4 := hb3.grown hg4 hb3.size (fun q e => by have e' : w2.heap.size = q := Option.some.inj e; omega); have hbl4 := hb2.trans (ha4.mono hb2.size); clear hown hrr hb3 hg4 hbl3))
      | (go_at_call 11; go_must (refine (PO1.out _ hbl4).mono ?_; rintro e w5 ⟨u5, rfl, ho5, hb5⟩; have ha5 := ha4.trans (hb5.mono ha4.size); have hbl5 := hbl4.trans (hb5.mono hbl4.size); have hrd5 := ho5.ownL.reads; clear ho5 ha4))
      | (go_at_call 10; go_must (refine (PJ1.out _ _ _ hbl5 (hv4.reads.below hb5) hrd5).mono ?_; rintro e w6 ⟨f6, rfl, hf6, hb6⟩; have ha6 := ha5.trans (hb6.mono ha5.size); have hbl6 := hbl5.trans (hb6.mono hbl5.size); have hat6 := hat2.ext ha6; clear hrd5 hv4 hb5 hbl4 PJ1 hf6 ha5)))
    clear hb2 hb6 hbl5 hat2 ha6
    have T7 := hat6.lt
    obtain ⟨g7, hg7⟩ : ∃ q, w.heap.size = q := ⟨_, rfl⟩
    have HG7 := Lib.hid hg7
    rw [hg7] at hat6 T7 ⊢
    by_cases hV : C1 = 2001 ∧ E1 = 0
    · obtain ⟨rfl, rfl⟩ := hV
      obtain rfl := HVC.out rfl rfl
      go_upto_region 8 with (go_at_call 11; go_must (refine (PO1.out _ hbl6).mono ?_; rintro e w9 ⟨u9, rfl, ho9, hb9⟩; have hbl9 := hbl6.trans (hb9.mono hbl6.size); have hat9 := hat6.ext hb9; have HT6 := Lib.hid (And.intro T7 hb9.size)))
      obtain ⟨p9, c9, e9, k1, k2⟩ := ho9.ownL.reads.shape
      rw [HNL.out] at e9 k1
      subst e9
      obtain ⟨D9, hD9⟩ : ∃ q, w6.heap.size = q := ⟨_, rfl⟩
      rw [hD9] at ho9 T7
      have HO9 := Lib.hid ho9
      have hc9 : c9 ≤ 9223372036854775807 := by unfold maxLen at k2; omega
      have T9 : D9 ≤ w9.heap.size := by have := hb9.size; omega
      clear hD9 hb9 hbl6 hat6 ho9 k2 HT6
      go_loopw [13] (fun iv wq => ∃ (i : Nat) (ys : List A), iv = .int .i64 i ∧ i ≤ no ∧ i ≤ nl ∧ Below D9 w9 wq ∧ Hid (OwnD D9 35 D9 wq (.slice p9 nl c9) ys) ∧ Hid (ys.length = nl ∧ ys.Perm l)) (fun iv _ => nl - (intOf iv).toNat)
      case atStart => exact ⟨0, l, rfl, by omega, by omega, Below.refl _ _, HO9, Lib.hid ⟨HNL.out, List.Perm.refl _⟩⟩
      case round =>
        clear HO9
        obtain ⟨i, ys, rfl, hi1, hi2, hbq, HOQ, HYS⟩ := hrel
        have Tq := hbq.size
        go_upto_region 8 with fail
        go_cut [56] from 47 to 81 (fun c wx => c = .bool (decide (i < no ∧ i < nl)) ∧ wr = wx)
        case first =>
          by_cases hlo : i < no
          · by_cases hll : i < nl
            · go_wp2_with fail
              go_meet
              exact ⟨by rw [decide_eq_true (⟨hlo, hll⟩ : i < no ∧ i < nl)], rfl⟩
            · go_wp2_with fail
              go_meet
              exact ⟨by rw [decide_eq_false (fun h => hll h.2 : ¬ (i < no ∧ i < nl))], rfl⟩
          · go_wp2_with fail
            go_meet
            exact ⟨by rw [decide_eq_false (fun h => hlo h.1 : ¬ (i < no ∧ i < nl))], rfl⟩
        case rest =>
          obtain ⟨rfl, rfl⟩ := hcut
          by_cases hcc : i < no ∧ i < nl
          · rw [decide_eq_true hcc]
            obtain ⟨hlo, hll⟩ := hcc
            obtain ⟨gL, cL, eL, kL1, kL2, kL3, kL4⟩ := OwnD.block HOQ.out (by rw [HYS.out.1]; omega)
            rw [HYS.out.1] at eL
            cases eL
            obtain ⟨b3, o3, c3', e3, _, _, hlt3, hc3⟩ := Utf.shape1 HO'.out HNO.out (by omega)
            cases e3
            have hblq : Below w.heap.size w wr := hbl9.trans (hbq.mono (by have := HG7.out; omega))
            have oc := (hblq.cell (p := ⟨b3, o3 + i, none⟩) hlt3).trans (hc3 i hlo)
            obtain ⟨kb, hkb⟩ : ∃ kb : Nat, os.getD i 0 = (kb : Int) ∧ kb ≤ 255 := by
              have := HOB.out (os.getD i 0) (by rw [List.getD_eq_getElem?_getD, List.getElem?_eq_getElem (by rw [HNO.out]; exact hlo)]; exact List.getElem_mem _)
              exact ⟨(os.getD i 0).toNat, by omega, by omega⟩
            rw [hkb.1] at oc
            obtain ⟨_, kb255⟩ := hkb
            obtain ⟨kk, hkk⟩ : ∃ kk, kb % nl = kk := ⟨_, rfl⟩
            have hkl : kk < nl := by rw [← hkk]; exact Nat.mod_lt _ (by omega)
            have hmod : (kb : Int).tmod (nl : Int) = (kk : Int) := by rw [← hkk]; simp [Int.tmod]
            have hnz : ¬ nl = 0 := by omega
            obtain ⟨xi, pi, mi, x1, x2, x3, x4, x5, x6⟩ := OwnD.elem HOQ.out i (by rw [HYS.out.1]; omega)
            obtain ⟨xk, pk, mk, y1, y2, y3, y4, y5, y6⟩ := OwnD.elem HOQ.out kk (by rw [HYS.out.1]; omega)
            have X1 := Lib.hid x1
            have Y1 := Lib.hid y1
            have XR := Lib.hid (And.intro x3 (And.intro x4 (And.intro x5 x6)))
            have YR := Lib.hid (And.intro y3 (And.intro y4 (And.intro y5 y6)))
            have hnli : ¬ nl ≤ i := by omega
            have hnok : ¬ nl ≤ kk := by omega
            have hnoi : ¬ no ≤ i := by omega
            clear x1 x2 x3 x4 x5 x6 y1 y2 y3 y4 y5 y6 hc3 hkk
            have hdi : (row xi (.slice pi xi.data.length mi)).toArray.all (·.oneCell') = true := by simp [row, Value.oneCell']
            have HDI := Lib.hid hdi
            clear hdi
            go_upto_region 12 with (first
              | ((with_reducible refine wpl_loadE rfl 35 (.tmp 69) rfl gL (i * 5) ?_ (row xi (.slice pi xi.data.length mi)).toArray _ XR.out.1 Tryd.underlying35 rfl (by kernel_rfl) ?_); rfl)
              | ((with_reducible refine wpl_allocAt rfl 35 rfl #[.int .u32 0, .int .u32 0, .bool false, .bool false, .slice none 0 0] (by kernel_rfl) ?_); go_must (intro u1 hat1 hb hs; clear hs; have hb1q := hb))
              | ((with_reducible refine wpl_storeR rfl 35 (.tmp 15) (.tmp 70) rfl rfl wr.heap.size 35 _ (row xi (.slice pi xi.data.length mi)).toArray ?_ ?_ hat1 (by kernel_rfl) ?_ ?_ ?_); rfl; rfl; rfl; (exact HDI.out); go_must (intro u2 hat2 hg2; have hbt := hb1q.grown hg2 hb1q.size (fun q e => by have e' : wr.heap.size = q := Option.some.inj e; omega); clear hat1 hb1q hg2)))
            have HOQ2 := Lib.hid (HOQ.out.below hbt)
            have HX2 := Lib.hid (And.intro (range_below XR.out.1 hbt kL4) (XR.out.2.1.below hbt))
            have HY2 := Lib.hid (And.intro (range_below YR.out.1 hbt kL4) (YR.out.2.1.below hbt))
            have hb2q := hbq.trans (hbt.mono (show D9 ≤ wr.heap.size by omega))
            have T2 := hat2.lt
            obtain ⟨Gt, hGt⟩ : ∃ q, wr.heap.size = q := ⟨_, rfl⟩
            rw [hGt] at hat2 kL4 T2 ⊢
            have hne : Gt ≠ gL := by omega
            have HAT2 := Lib.hid hat2
            have hDl : D9 ≤ gL := kL3
            have hDu : D9 ≤ u2.heap.size := by have := hbt.size; omega
            have HLI := Lib.hid (show i < ys.length by rw [HYS.out.1]; exact hll)
            have HLK := Lib.hid (show kk < (ys.set i xk).length by rw [List.length_set, HYS.out.1]; exact hkl)
            have HI5 := Lib.hid (show (Tryd.prog.info? 35).map (·.size) = some 5 by kernel_rfl)
            clear hat2 hbt hGt
            go_wp2_with (first
              | ((with_reducible refine wpl_loadE rfl 35 (.tmp 75) rfl gL (kk * 5) ?_ (row xk (.slice pk xk.data.length mk)).toArray _ HY2.out.1 Tryd.underlying35 rfl (by kernel_rfl) ?_); rfl)
              | (refine wpl_storeL rfl 35 (.tmp 77) (.tmp 76) rfl rfl D9 35 D9 gL nl c9 i ys xk (.slice pk xk.data.length mk) rfl rfl HOQ2.out HLI.out HY2.out.2 YR.out.2.2.1 YR.out.2.2.2 HI5.out ?_; go_must (intro w3 ho3 hg3; have HO3 := Lib.hid ho3; have hat3 := HAT2.out.grown hg3 hne; have HX3 := Lib.hid (reads_grown HX2.out.2 hg3 (fun h0 q hq => by have e' : gL = q := Option.some.inj hq; exact e' ▸ XR.out.2.2.1 h0 gL rfl)); have hb3q := hb2q.grown hg3 hDu (fun q e => by have e' : gL = q := Option.some.inj e; omega); have hDu3 : D9 ≤ w3.heap.size := (by have := hg3.size; omega); clear ho3 hg3 hb2q))
              | ((with_reducible refine wpl_loadAt rfl 35 (.tmp 15) rfl Gt 35 (row xi (.slice pi xi.data.length mi)).toArray hat3 _ Tryd.underlying35 rfl (by kernel_rfl) ?_ ?_); rfl)
              | (refine wpl_storeL rfl 35 (.tmp 81) (.tmp 80) rfl rfl D9 35 D9 gL nl c9 kk (ys.set i xk) xi (.slice pi xi.data.length mi) rfl rfl HO3.out HLK.out HX3.out XR.out.2.2.1 XR.out.2.2.2 HI5.out ?_; go_must (intro w4 ho4 hg4; have HO4 := Lib.hid ho4; have hb4q := hb3q.grown hg4 hDu3 (fun q e => by have e' : gL = q := Option.some.inj e; omega); clear ho4 hg4 hb3q hat3)))
            go_roundw
            case rel => exact ⟨i + 1, (ys.set i xk).set kk xi, by go_num, by omega, by omega, hb4q, HO4, Lib.hid ⟨by rw [List.length_set, List.length_set]; exact HYS.out.1, (by
              have hk' : kk < ys.length := by rw [HYS.out.1]; exact hkl
              have e1 : xk = ys[kk] := by have := Y1.out; rw [List.getElem?_eq_getElem hk'] at this; exact (Option.some.inj this).symm
              have e2 : xi = ys[i]'HLI.out := by have := X1.out; rw [List.getElem?_eq_getElem HLI.out] at this; exact (Option.some.inj this).symm
              rw [e1, e2]
              exact (List.set_set_perm HLI.out hk').trans HYS.out.2)⟩⟩
            case measure => simp [intOf]; omega
          · rw [decide_eq_false hcc]
            clear hcc hi1 hi2
            have HPERM := Lib.hid HYS.out.2
            have hatq : At wr g7 35 (row x (.slice pd nd cd)).toArray := (hbq.block g7 T7).trans hat9
            have hblq : Below w.heap.size w wr := hbl9.trans (hbq.mono (by have := HG7.out; omega))
            have TW : g7 < wr.heap.size := by omega
            have hbut0 := But.refl g7 wr
            clear hat9 hbl9 hbq
            go_upto_region 16 with (first
              | (refine wpl_storeC rfl 4 (.tmp 82) (.const (.bool false)) rfl rfl g7 2 35 (row x (.slice pd nd cd)).toArray (row (noMust x) (.slice pd nd cd)).toArray (.bool false) rfl rfl hatq (show (2 : Nat) < 5 by decide) (by kernel_rfl) rfl rfl ?_; go_must (intro w10 hat10 hg10; have hbut1 := hbut0.grown hg10 (fun q e => .inl (by have e' : g7 = q := Option.some.inj e; omega)); have T10 := hg10.size; clear hatq hg10 hbut0))
              | (refine wpl_empty rfl 32 5 rfl .u8 (fun _ => by kernel_rfl) ?_; go_must (intro w11 hown11 hb11 hs11; have hbut2 := hbut1.below hb11; have hat11 := hat10.ext hb11; have c4 := hat11.cell 4; simp [row] at c4; have hrd11 := HXD'.out.below (hbut2.base hblq (Nat.le_of_eq HG7.out)); have hs11' := hb11.size; clear hat10 hb11 hbut1 hs11))
              | (at_builtin; have _t := hown11; clear _t; go_must (obtain ⟨i0, hi, hz0, hz1, hz2⟩ := info_parts Wire.info5; refine wpl_append rfl (.tmp 83) (.tmp 85) 32 rfl .u8 w10.heap.size 5 1 i0 (.int .u8 0) Tryd.underlying32 hi hz0 hz1 hz2 rfl (.slice (some ⟨w10.heap.size, 0, none⟩) 0 0) _ [] x.data rfl rfl hown11 (by rw [← HND.out] at hrd11 ⊢; exact hrd11) K3.out K4.out hs11' ?_; intro v12 w12 hv12 hg12; rw [List.nil_append] at hv12; clear hi hz0 hz1 hz2; have hbut3 := hbut2.grown hg12 (fun q e => .inr (by have e' : w10.heap.size = q := Option.some.inj e; omega)); have hat12 := hat11.grown (k := w10.heap.size) hg12 (by omega); obtain ⟨p12, c12, rfl, _, _, _, _⟩ := hv12.reads; clear hown11 hrd11 hat11 hg12 hbut2 c4))
              | (refine wpl_storeC rfl 32 (.tmp 87) (.tmp 86) rfl rfl g7 4 35 (row (noMust x) (.slice pd nd cd)).toArray (row (noMust x) (.slice p12 x.data.length c12)).toArray (.slice p12 x.data.length c12) rfl rfl hat12 (show (4 : Nat) < 5 by decide) (by kernel_rfl) rfl rfl ?_; go_must (intro w13 hat13 hg13; have hbut4 := hbut3.grown hg13 (fun q e => .inl (by have e' : g7 = q := Option.some.inj e; omega)); have hv13 : Row .u8 5 w10.heap.size w13 (.slice p12 x.data.length c12) x.data := World.ownsRow.kept hv12 hg13 (.inr (fun e => by have := (World.ownsRow.lt hv12 _ e).1; omega)); clear hat12 hbut3 hv12 hg13)))
            have HGL := Lib.hid (fun q (h : (Value.slice p9 nl c9).ownBlock = some q) => HOQ.out.ownL.lt q h)
            have ho13 := OwnD.but HOQ.out hbut4 T7 T7
            have HO13 := Lib.hid ho13
            have hbl13 := hbut4.base hblq (Nat.le_of_eq HG7.out)
            have HAT13 := Lib.hid hat13
            have HV13 := Lib.hid hv13
            have T13 := hat13.lt
            have HR13 := Lib.hid (HR'.out.below hbl13)
            have HS10 := Lib.hid T10
            have HB13 := Lib.hid hbut4.size
            clear ho13 hat13 hv13 hbut4 hblq HOQ T10 hs11'
            go_upto_region 17 with fail
            go_loopw [16] (fun qv wq => ∃ q : Nat, qv = .int .i64 q ∧ q ≤ nr ∧ Below w13.heap.size w13 wq ∧ Hid (∀ j r, j < q → rs[j]? = some r → hitR x.code x.vendor r = false)) (fun qv _ => nr - (intOf qv).toNat)
            case atStart => exact ⟨0, rfl, by omega, Below.refl _ _, Lib.hid (fun j r h => absurd h (Nat.not_lt_zero _))⟩
            case round =>
              obtain ⟨q, rfl, hq, hbr, HK⟩ := hrel
              have hfin := hbl13.trans (hbr.mono hbl13.size)
              by_cases hql : q < nr
              · obtain ⟨r, hr1, hr2, b2, off2, c2', hv2, hltb2, hra2⟩ := ER.out q hql _ (HR13.out.below hbr)
                cases hv2
                obtain ⟨y0, y1⟩ := range_at6 hra2
                have d0 := (HAT13.out.ext hbr).cell 0
                have d1 := (HAT13.out.ext hbr).cell 1
                simp [row, noMust] at d0 d1
                have hnq : ¬ nr ≤ q := by omega
                have HX2 := Lib.hid hr1
                clear hra2 hr1 hr2
                by_cases e1 : r.code = x.code
                · by_cases e2 : r.vendor = x.vendor
                  · have b1 : (r.code == x.code) = true := by simpa using e1
                    have b2' : (r.vendor == x.vendor) = true := by simpa using e2
                    clear e1 e2
                    go_wp2_with fail
                    go_big_quiet (fail)
                    go_wp2_with fail
                    all_goals (go_ret; exact ⟨rfl, below_drewR hfin _⟩)
                  · have HK1 := Lib.hid (show ∀ j r', j < q + 1 → rs[j]? = some r' → hitR x.code x.vendor r' = false from fun j r' hj hr' => by
                      by_cases e : j = q
                      · subst e; rw [HX2.out] at hr'; cases hr'; unfold hitR; simp [e1, e2]
                      · exact HK.out j r' (by omega) hr')
                    have b1 : (r.code == x.code) = true := by simpa using e1
                    have b2' : (r.vendor == x.vendor) = false := by simpa using e2
                    clear e1 e2
                    go_wp2_with fail
                    go_big_quiet (fail)
                    go_wp2_with fail
                    go_roundw
                    case rel => exact ⟨q + 1, by go_num, by omega, below_drewR hbr _, HK1⟩
                    case measure => simp [intOf]; omega
                · have HK1 := Lib.hid (show ∀ j r', j < q + 1 → rs[j]? = some r' → hitR x.code x.vendor r' = false from fun j r' hj hr' => by
                    by_cases e : j = q
                    · subst e; rw [HX2.out] at hr'; cases hr'; unfold hitR; simp [e1]
                    · exact HK.out j r' (by omega) hr')
                  have b1 : (r.code == x.code) = false := by simpa using e1
                  clear e1
                  go_wp2_with fail
                  go_big_quiet (fail)
                  go_wp2_with fail
                  go_roundw
                  case rel => exact ⟨q + 1, by go_num, by omega, below_drewR hbr _, HK1⟩
                  case measure => simp [intOf]; omega
              · obtain rfl : q = nr := by omega
                have HNOHIT := Lib.hid (show ∀ r ∈ rs, hitR x.code x.vendor r = false from fun r hr => by
                  obtain ⟨j, hj⟩ := List.getElem?_of_mem hr
                  exact HK.out j r (by have := (List.getElem?_eq_some_iff.1 hj).1; have := HNR.out; omega) hj)
                go_upto_region 21 with fail
                have hap0 : Apart (.slice p9 nl c9) (noMust x, .slice p12 x.data.length c12) := fun h0 q hq e => by
                  obtain ⟨g', e1, _, e2, _⟩ := HV13.out.form h0
                  have h1 := HGL.out q hq
                  rw [show (noMust x, Value.slice p12 x.data.length c12).2 = .slice p12 x.data.length c12 from rfl, e1] at e
                  have e3 : g' = q := Option.some.inj e
                  have := HS10.out
                  omega
                obtain ⟨d, hd⟩ : ∃ d, Value.slice p12 x.data.length c12 = d := ⟨_, rfl⟩
                have HATr := Lib.hid (show At wr g7 35 (row (noMust x) d).toArray from hd ▸ HAT13.out.ext hbr)
                have HVr := Lib.hid (show Row .u8 5 w10.heap.size wr d x.data from hd ▸ HV13.out.below hbr)
                have HOr := Lib.hid (HO13.out.below hbr)
                obtain ⟨v9, hv9⟩ : ∃ v, Value.slice p9 nl c9 = v := ⟨_, rfl⟩
                rw [hd, hv9] at hap0
                rw [hv9] at HOr HGL ⊢
                have HLN := Lib.hid (show ys.length ≤ 200 by rw [HYS.out.1]; omega)
                have HW := Lib.hid (fun q (h : v9.ownBlock = some q) => show q < wr.heap.size by have h1 := HGL.out q h; have := HS10.out; have := HB13.out; have := hbr.size; omega)
                have HAP := Lib.hid hap0
                have HNB := Lib.hid (show 0 < x.data.length → d.ownBlock = none ∨ d.ownBlock ≠ v9.ownBlock from fun h0 => by
                  cases ev : v9.ownBlock with
                  | none => cases d.ownBlock with
                    | none => exact .inl rfl
                    | some k => exact .inr (by simp)
                  | some k => exact .inr (HAP.out h0 k ev))
                have HG7' := Lib.hid (show some g7 ≠ v9.ownBlock from fun e => by have := (HGL.out g7 e.symm).1; omega)
                have HBASE := Lib.hid (show ∀ q, v9.ownBlock = some q → w.heap.size ≤ q from fun q e => by have := (HGL.out q e).1; have := HG7.out; omega)
                have HW9 := Lib.hid (show D9 ≤ wr.heap.size by have := HB13.out; have := hbr.size; omega)
                have PJX := Lib.hid (PJ2.out ys HPERM.out (by trivial) HNOHIT.out)
                clear hd hbr HK HR13 hap0
                refine MonoG.wp_region_mono (L := relS v9.ownBlock (ys.length * 5) (row (noMust x) d)) [some 113, some 114, some 115, some 116, some 117, some 118, some 119, some 120, some 112, some 121, some 122, some 123, some 17, some 18, some 19]
                  [emptyP _ _ _ wr.heap.size HW.out, MonoG.isV (.slice p1 q c1), rulesP _ _ _ wr.heap.size HW.out rs, MonoG.isV v9, MonoG.isV (.agg (row (noMust x) d).toArray), oneP _ _ _ wr.heap.size HW.out (row (noMust x) d).toArray, listP _ _ _ (ys ++ [noMust x]), MonoG.isV (.tuple #[.int .i64 2001, .slice none 0 0, .int .i64 0]), MonoG.isV (.tuple #[.int .i64 2001, .slice none 0 0, .int .i64 0]), MonoG.isV (.int .i64 2001), MonoG.isV (.slice none 0 0), MonoG.isV (.int .i64 0), MonoG.isV (.int .i64 2001), MonoG.isV (.slice none 0 0), MonoG.isV (.int .i64 0)] (by kernel_rfl) (by kernel_rfl) ?_ ?_
                · simp only [MonoG.OpGoals, and_true]
                  refine ⟨?_, ?_, ?_, ?_, ?_, ?_, ?_, ?_, ?_, ?_, ?_, ?_, ?_, ?_, ?_⟩
                  · intro a u hL hsu hdu
                    refine Mono.if_want rfl ?_
                    have hbz := (Below.refl u.heap.size u).alloc (Nat.le_refl _) (.cells #[] 37)
                    exact g_val _ (by simp [execOp, buildNone]) (Sf.below hbz) ⟨u.heap.size, rfl, At.new u 37 #[], hL.size⟩
                  · intro a u hL hsu hdu
                    refine Mono.if_want rfl ?_
                    have z := hsu 0 (by decide)
                    simp [Act.eval] at z
                    exact g_val (.slice p1 q c1) (by simp [execOp, Act.eval, z]) ((relS _ _ _).refl u) rfl
                  · intro a u hL hsu hdu
                    refine Mono.if_want rfl ?_
                    obtain ⟨g, z113, hat, hg⟩ : ∃ g, a.eval (.tmp 113) = .slice (some ⟨g, 0, none⟩) 0 0 ∧ At u g 37 #[] ∧ wr.heap.size ≤ g := gdep hdu (i := 0) (d := 113) rfl rfl rfl
                    have z114 : a.eval (.tmp 114) = .slice p1 q c1 := gdep hdu (i := 1) (d := 114) rfl rfl rfl
                    obtain ⟨v', u', hrun, hb, ho⟩ := run_appendR u wr.heap.size g _ rs hat hg (HR'.out.below (Sf.base hL hfin HBASE.out)) (by have := HNR.out; omega)
                    exact g_val v' (by simp only [execOp, resolve, invoke, builtin, Sem.run_bind, Sem.run_pure, Result.andThen_ok, List.map_toArray, List.map_cons, List.map_nil, z113, z114, hrun]) (Sf.below hb) ho
                  · intro a u hL hsu hdu
                    refine Mono.if_want rfl ?_
                    have z := hsu 12 (by decide)
                    simp [Act.eval] at z
                    exact g_val v9 (by simp [execOp, Act.eval, z]) ((relS _ _ _).refl u) rfl
                  · intro a u hL hsu hdu
                    refine Mono.if_want rfl ?_
                    have z : a.eval (.tmp 7) = .pointer (some ⟨g7, 0, none⟩) := hsu 7 (by decide)
                    have hat := Sf.at hL HATr.out HG7'.out
                    have hr := run_loadVar_mid u g7 0 35 (row (noMust x) d) _ (Ops.range_at hat) Tryd.underlying35 rfl (by kernel_rfl)
                    refine g_val (.agg (row (noMust x) d).toArray) ?_ ((relS _ _ _).refl u) rfl
                    unfold execOp
                    simp only [z, Instr.loadAt, Instr.sureAddr, Sem.run_bind, Sem.run_pure, Result.andThen_ok, hr]
                  · intro a u hL hsu hdu
                    refine Mono.if_want rfl ?_
                    have z117 : a.eval (.tmp 117) = .agg (row (noMust x) d).toArray := gdep hdu (i := 4) (d := 117) rfl rfl rfl
                    have hbz := (Below.refl u.heap.size u).alloc (Nat.le_refl _) (.cells (row (noMust x) d).toArray 35)
                    refine g_val _ ?_ (Sf.below hbz) ⟨u.heap.size, rfl, At.new u 35 _, hL.size⟩
                    unfold execOp
                    simp only [List.map_toArray, List.map_cons, List.map_nil, z117, Sem.run_bind, Avp.build22 (noMust x) d u, Result.andThen_ok, Sem.run_pure]
                  · intro a u hL hsu hdu
                    refine Mono.if_want rfl ?_
                    have z116 : a.eval (.tmp 116) = v9 := gdep hdu (i := 3) (d := 116) rfl rfl rfl
                    obtain ⟨g, z118, hat, hg⟩ : ∃ g, a.eval (.tmp 118) = .slice (some ⟨g, 0, none⟩) 1 1 ∧ At u g 35 (row (noMust x) d).toArray ∧ wr.heap.size ≤ g := gdep hdu (i := 5) (d := 118) rfl rfl rfl
                    obtain ⟨v', u', hrun, hs, hx⟩ := run_append1 u D9 D9 v9 ys (noMust x) d g (Sf.ownD hL HOr.out rfl rfl) hat (Sf.reads hL HVr.out.reads HNB.out) HAP.out HLN.out (by have := hL.size; have := HW9.out; omega) (fun e => by have := HW.out g e.symm; omega)
                    exact g_val v' (by simp only [execOp, resolve, invoke, builtin, Sem.run_bind, Sem.run_pure, Result.andThen_ok, List.map_toArray, List.map_cons, List.map_nil, z116, z118, hrun]) hs hx
                  · intro a u hL hsu hdu
                    refine Mono.if_want rfl ?_
                    have hrl : OwnR 37 wr.heap.size u (a.eval (.tmp 115)) rs := gdep hdu (i := 2) (d := 115) rfl rfl rfl
                    have hll : LX v9.ownBlock (ys.length * 5) (row (noMust x) d) u (a.eval (.tmp 119)) (ys ++ [noMust x]) := gdep hdu (i := 6) (d := 119) rfl rfl rfl
                    refine g_call 10 #[a.eval (.tmp 115), a.eval (.tmp 119)] (by simp [execOp, go_sem, Act.eval]) ((PJX.out _ _ u (Sf.base hL hfin HBASE.out) hrl.reads hll.reads).mono ?_)
                    rintro e u' ⟨v', rfl, hf, hb⟩
                    obtain rfl : v' = .slice none 0 0 := hf
                    exact ⟨_, rfl, Sf.below hb, rfl⟩
                  all_goals
                    intro a u hL hsu hdu
                    refine Mono.if_want rfl ?_
                  · have z : a.eval (.tmp 120) = .tuple #[.int .i64 2001, .slice none 0 0, .int .i64 0] := gdep hdu (i := 7) (d := 120) rfl rfl rfl
                    simp [Act.eval] at z
                    exact g_val _ (by simp [execOp, Act.eval, z]) ((relS _ _ _).refl u) rfl
                  · have z : a.eval (.tmp 112) = .tuple #[.int .i64 2001, .slice none 0 0, .int .i64 0] := gdep hdu (i := 8) (d := 112) rfl rfl rfl
                    simp [Act.eval] at z
                    exact g_val (.int .i64 2001) (by simp [execOp, Act.eval, z, go_sem]) ((relS _ _ _).refl u) rfl
                  · have z : a.eval (.tmp 112) = .tuple #[.int .i64 2001, .slice none 0 0, .int .i64 0] := gdep hdu (i := 8) (d := 112) rfl rfl rfl
                    simp [Act.eval] at z
                    exact g_val (.slice none 0 0) (by simp [execOp, Act.eval, z, go_sem]) ((relS _ _ _).refl u) rfl
                  · have z : a.eval (.tmp 112) = .tuple #[.int .i64 2001, .slice none 0 0, .int .i64 0] := gdep hdu (i := 8) (d := 112) rfl rfl rfl
                    simp [Act.eval] at z
                    exact g_val (.int .i64 0) (by simp [execOp, Act.eval, z, go_sem]) ((relS _ _ _).refl u) rfl
                  · have z : a.eval (.tmp 121) = .int .i64 2001 := gdep hdu (i := 9) (d := 121) rfl rfl rfl
                    simp [Act.eval] at z
                    exact g_val (.int .i64 2001) (by simp [execOp, Act.eval, z]) ((relS _ _ _).refl u) rfl
                  · have z : a.eval (.tmp 122) = .slice none 0 0 := gdep hdu (i := 10) (d := 122) rfl rfl rfl
                    simp [Act.eval] at z
                    exact g_val (.slice none 0 0) (by simp [execOp, Act.eval, z]) ((relS _ _ _).refl u) rfl
                  · have z : a.eval (.tmp 123) = .int .i64 0 := gdep hdu (i := 11) (d := 123) rfl rfl rfl
                    simp [Act.eval] at z
                    exact g_val (.int .i64 0) (by simp [execOp, Act.eval, z]) ((relS _ _ _).refl u) rfl
                · intro u hL
                  have hfin2 := Sf.base hL hfin HBASE.out
                  simp only [MonoG.Fin]
                  rintro v1 h1 _ rfl v3 h3 _ rfl _ rfl v6 h6 v7 h7 _ rfl _ rfl _ rfl _ rfl _ rfl _ rfl _ rfl _ rfl
                  simp [Act.put]
                  go_wp2_with fail
                  go_ret
                  exact ⟨rfl, hfin2⟩
    · clear hg7 hat6
      by_cases h1 : C1 = 2001
      · have b1 : (C1 != 2001) = false := by simpa using h1
        have b2 : (E1 != 0) = true := by simp; exact fun e => hV ⟨h1, e⟩
        clear h1 hV
        go_wp2_with fail
        go_ret
        exact ⟨rfl, hbl6⟩
      · have b1 : (C1 != 2001) = true := by simpa using h1
        clear h1 hV
        go_wp2_with fail
        go_ret
        exact ⟨rfl, hbl6⟩
  · have eA : decide (nr ≤ 80 ∧ nl ≤ 150) = false := decide_eq_false hA
    rw [eA] at PL
    rw [hnr, hnl, hno, hnd]
    clear hr hl ho hob hx hxd hok hla ht HR HL HO HXD hA eA g1 g2 g3 g4 g5 g6 hnr hno hnd
    go_enter Tryd.func4, Tryd.ntmps4
    go_wp2_with (first
      | ((with_reducible refine wpl_boxAt rfl 35 (.tmp 3) rfl (row x (.slice pd nd cd)).toArray ?_ ?_); rfl; go_must (intro w0 hat0 hb0 hs0; clear hs0 hat0))
      | (go_at_call 8; have _t := hnl; clear _t; go_must (refine (PA.out _).mono ?_; rintro e w1 ⟨rfl, hb1⟩; have hb1' := hb0.trans (hb1.mono hb0.size); clear hnl hb1 hb0))
      | (go_at_call 8; go_must (refine (PA.out _).mono ?_; rintro e w3 ⟨rfl, hb3⟩; have hb4 := hb2.trans (hb3.mono hb2.size)))
      | (go_at_call 9; go_must (refine (PL.out _).mono ?_; rintro e w2 ⟨rfl, hw2⟩; have hb2 : Below w.heap.size w w2 := (by rw [hw2]; exact hb1'); clear hb1' hw2)))
    go_ret
    exact ⟨rfl, hb4⟩
end Go.Proofs.YtjfmahodbdianaaDoor.Dict
