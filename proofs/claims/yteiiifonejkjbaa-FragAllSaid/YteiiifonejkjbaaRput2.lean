/-
  Contract of the reference's box: Put (17) of a piece whose form is good.
-/
import Derived.Test.YteiiifonejkjbaaRput1
namespace Go.Proofs.Yteiiifonejkjbaa.Rb
open Go.RowKit Mem Cells Ops Pcs Go.Maps Go.Proofs.Yteiiifonejkjbaa.Open Go.Proofs.Yteiiifonejkjbaa.Bx
set_option linter.unusedVariables false
set_option linter.unusedSimpArgs false
attribute [local go_sem] Oper.semAt_some

theorem put_hit {bx : S} {p : A} {F : Int} {n : Nat} (hb : badF p = false) (hn : getH bx.held p.tsn = none) (hl : ¬ 512 ≤ bx.held.length) (hw : wholeF (bx.held ++ [p]) p = (F, n)) (h0 : 0 < n) :
    putF bx p = (if p.un = true then ({ bx with held := (takeF n (bx.held ++ [p]) F []).1 }, [⟨p.stream, (takeF n (bx.held ++ [p]) F []).2⟩], 0) else
      (⟨(takeF n (bx.held ++ [p]) F []).1, (readyF ((waitF bx.wait p (takeF n (bx.held ++ [p]) F []).2).length + 1) (waitF bx.wait p (takeF n (bx.held ++ [p]) F []).2) bx.next p.stream.toNat []).1, (readyF ((waitF bx.wait p (takeF n (bx.held ++ [p]) F []).2).length + 1) (waitF bx.wait p (takeF n (bx.held ++ [p]) F []).2) bx.next p.stream.toNat []).2.1⟩, (readyF ((waitF bx.wait p (takeF n (bx.held ++ [p]) F []).2).length + 1) (waitF bx.wait p (takeF n (bx.held ++ [p]) F []).2) bx.next p.stream.toNat []).2.2, 0)) := by
  obtain ⟨k, rfl⟩ : ∃ k, n = k + 1 := ⟨n - 1, by omega⟩
  unfold putF
  rw [if_neg (by rw [hb]; decide), hn, if_neg (by decide), if_neg hl, hw]
theorem put_miss {bx : S} {p : A} (hb : badF p = false) (hn : getH bx.held p.tsn = none) (hl : ¬ 512 ≤ bx.held.length) (hw : (wholeF (bx.held ++ [p]) p).2 = 0) : putF bx p = ({ bx with held := bx.held ++ [p] }, [], 0) := by
  unfold putF
  rw [if_neg (by rw [hb]; decide), hn, if_neg (by decide), if_neg hl]
  rcases hww : wholeF (bx.held ++ [p]) p with ⟨F, n⟩
  rw [hww] at hw
  simp only at hw
  subst hw
  rfl
theorem take_ok : ∀ (n : Nat) {h : List A} {t : Int} {acc : List Int}, (∀ a ∈ h, a.ok ∧ 0 < a.data.length ∧ a.data.length ≤ 256 ∧ a.stream < 8) → bytesOk acc → isU32 t → n ≤ 512 → (∀ k : Nat, k < n → (getH h (stp t (k : Int))).isSome = true) →
    bytesOk (takeF n h t acc).2 ∧ acc.length + n ≤ (takeF n h t acc).2.length ∧ (takeF n h t acc).2.length ≤ acc.length + 256 * n
  | 0, h, t, acc, _, hb, _, _, _ => ⟨hb, by simp [takeF], by simp [takeF]⟩
  | n + 1, h, t, acc, ha, hb, ht, hn, hp => by
    obtain ⟨a, hg⟩ := Option.isSome_iff_exists.1 (by have := hp 0 (by omega); rw [show ((0 : Nat) : Int) = 0 from rfl, stp_0 ht] at this; exact this)
    obtain ⟨hm, hat⟩ := getH_mem hg
    obtain ⟨ha1, ha2, ha3, _⟩ := ha a hm
    rw [take_more hg]
    have key := take_ok n (h := rm h t) (t := nxt t) (acc := acc ++ a.data) (fun b hb => ha b (List.mem_filter.1 hb).1) (fun z hz => (List.mem_append.1 hz).elim (hb z) (ha1.2.2.2 z)) (u32_wrap _) (by omega) (fun k hk => by
      have e : stp (nxt t) (k : Int) = stp t ((k + 1 : Nat) : Int) := by unfold nxt stp; rw [Bx.wrap32, Bx.wrap32, Bx.wrap32]; omega
      rw [e, getH_rm_other _ (by intro e2; have := stp_inj (t := t) (i := ((k + 1 : Nat) : Int)) (j := 0) (by rw [e2, stp_0 ht]) (by omega) (by omega); omega)]
      exact hp (k + 1) (by omega))
    rw [List.length_append] at key
    exact ⟨key.1, by omega, by omega⟩
theorem S.ok_addW {x : S} (h : x.ok) {y : T} (hs : isU16 y.s) (hq : isU16 y.q) (hb : bytesOk y.data) (h0 : 0 < y.data.length) (hle : y.data.length ≤ 140000) (hn : getW x.wait y.s y.q = none) : S.ok { x with wait := x.wait ++ [y] } := by
  obtain ⟨h1, ⟨h2, h3⟩, h4⟩ := h
  refine ⟨h1, ⟨?_, fun z hz => ?_⟩, h4⟩
  · show ((x.wait ++ [y]).map fun y => (y.s, y.q)).Nodup
    rw [List.map_append, List.nodup_append]
    refine ⟨h2, by simp, ?_⟩
    intro a ha b hb2
    obtain ⟨z, hz, rfl⟩ := List.mem_map.1 ha
    rw [List.map_singleton, List.mem_singleton] at hb2
    rw [hb2]
    intro e
    exact getW_none hn z hz ⟨congrArg Prod.fst e, congrArg Prod.snd e⟩
  · rcases List.mem_append.1 hz with hz | hz
    · exact h3 z hz
    · rw [List.mem_singleton] at hz
      subst hz
      exact ⟨hs, hq, hb, h0, hle⟩
theorem any_take {l : List T} {s q : Int} {i : Nat} {y : T} (hy : l[i]? = some y) : ((l.take (i + 1)).any fun y => y.s == s && y.q == q) = (((l.take i).any fun y => y.s == s && y.q == q) || (y.s == s && y.q == q)) := by
  rw [List.take_add_one, hy, List.any_append]
  simp
theorem getW_any (l : List T) (s q : Int) : (getW l s q).isSome = l.any fun y => y.s == s && y.q == q := by
  unfold getW
  rw [Bool.eq_iff_iff, List.find?_isSome, List.any_eq_true]
set_option maxRecDepth 100000 in
set_option maxHeartbeats 16000000 in
theorem rput_in {w : World} {Z g : Nat} {vh vt : Value} {bx : S} (H : RB Z w g vh vt bx) (p : A) (d : Value) (hr : Reads .u8 w d p.data) (hin : inOk p) (hb : badF p = false) (hwl : bx.wait.length ≤ 999990) (hZ : Z ≤ w.heap.size) :
    Calls Try.prog 17 #[.pointer (some ⟨g, 0, none⟩), .agg (row p d).toArray] w (RPutIs Z w g bx p) := by
  obtain ⟨pq, pc, hd, _⟩ := id hr
  subst hd
  obtain ⟨L, hL⟩ : ∃ L, p.data.length = L := ⟨_, rfl⟩
  have HL := Lib.hid hL
  have HIN := Lib.hid hin
  have hL0 : 0 < L := by have := hin.2.1; omega
  have hL2 : L ≤ 256 := by have := hin.2.2.1; omega
  have hs8 : p.stream < 8 := hin.2.2.2
  have hs0 : 0 ≤ p.stream := hin.1.2.1.1
  have hut : isU32 p.tsn := hin.1.1
  have HU := Lib.hid hut
  obtain ⟨W0, hW0⟩ : ∃ W0, w = W0 := ⟨w, rfl⟩
  rw [hL] at hr ⊢
  rw [hW0] at H hr hZ ⊢
  have HR := Lib.hid hr
  have HH := Lib.hid H
  have HWL := Lib.hid hwl
  have HNB := Lib.hid hb
  have HZ := Lib.hid hZ
  have hlz : ((L : Int) == 0) = false := by simp; omega
  have hlb : ¬ (256 : Int) < (L : Int) := by omega
  have hlb2 : decide ((256 : Int) < (L : Int)) = false := decide_eq_false hlb
  have hsb : ¬ (8 : Int) ≤ p.stream := by omega
  have hsb2 : decide ((8 : Int) ≤ p.stream) = false := decide_eq_false hsb
  clear hL hin hr H hwl hb hW0 hut hZ
  go_enter Try.func17, Try.ntmps17
  go_upto_region 3 with ((with_reducible refine wpl_boxAt rfl 45 (.tmp 1) rfl (row p (.slice pq L pc)).toArray ?_ ?_); rfl; go_must (intro w1 hat1 hb1 hs1; have m0 := hat1.cell 0; have m1 := hat1.cell 1; have m6 := hat1.cell 6; simp [row] at m0 m1 m6; have HT1 := Lib.hid hat1; have HB1 := Lib.hid hb1; have HS1 := Lib.hid hs1; clear hat1 hb1 hs1))
  have HH1 := Lib.hid (HH.out.below HB1.out)
  clear m1 m6
  cases hget : getH bx.held p.tsn with
  | some a0 =>
    have hp : putF bx p = (bx, [], 9) := by unfold putF; rw [if_neg (by rw [HNB.out]; decide), hget]; rfl
    have HP := Lib.hid hp
    have HG := Lib.hid hget
    clear hp hget
    go_wp2_with (go_at_call 26; go_must (refine (piece HH1.out p.tsn).mono ?_; rintro e w2 ⟨r, rfl, hr, hb2⟩; obtain ⟨i, hi⟩ : ∃ i : Nat, r = (i : Int) := (by rcases hr with ⟨_, hn⟩ | ⟨i, a, hi, _⟩; exact absurd hn (by rw [HG.out]; exact fun e => by cases e); exact ⟨i, hi⟩); subst hi; have hi0 : (0 : Int) ≤ (i : Int) := Int.natCast_nonneg i; have hi0b : decide ((0 : Int) ≤ (i : Int)) = true := decide_eq_true hi0; have HB2 := Lib.hid (HB1.out.trans (hb2.mono HB1.out.size)); clear hr hb2))
    go_ret2
    unfold RPutIs
    rw [HP.out]
    exact ⟨_, rfl, OwnG.nil _ _, ⟨vh, vt, HH.out.below HB2.out⟩, ButX.ofBelow HB2.out⟩
  | none =>
    have HNO := Lib.hid hget
    clear hget
    go_upto_region 5 with (go_at_call 26; go_must (refine (piece HH1.out p.tsn).mono ?_; rintro e w2 ⟨r, rfl, hr, hb2⟩; obtain rfl : r = -1 := (by rcases hr with ⟨h, _⟩ | ⟨i, a, _, _, _, h⟩; exact h; exact absurd h (by rw [HNO.out]; exact fun e => by cases e)); have HB2 := Lib.hid (HB1.out.trans (hb2.mono HB1.out.size)); have HT2 := Lib.hid (HT1.out.ext hb2); clear hr hb2))
    have HH2 := Lib.hid (HH.out.below HB2.out)
    obtain ⟨ph, ch, hvh, hhc, _⟩ := HH2.out.held.shape
    obtain ⟨n0, hn0⟩ : ∃ n0, bx.held.length = n0 := ⟨_, rfl⟩
    rw [hn0] at hvh
    subst hvh
    have HN0 := Lib.hid hn0
    have hnb : n0 ≤ 512 := by rw [← hn0]; exact HH2.out.ok.1.1
    have c0 := HH2.out.row.cell 0
    have k6 := HT2.out.cell 6
    simp [rbA, row] at c0 k6
    clear hn0 hhc m0 HH1 HT1
    by_cases hfull : 512 ≤ n0
    · have hp : putF bx p = (bx, [], 10) := by unfold putF; rw [if_neg (by rw [HNB.out]; decide), HNO.out, if_neg (by decide), if_pos (by rw [HN0.out]; exact hfull)]
      have HP := Lib.hid hp
      have fz : (512 : Int) ≤ (n0 : Int) := by omega
      have fb : decide ((512 : Int) ≤ (n0 : Int)) = true := decide_eq_true fz
      clear hp
      go_wp2_with fail
      go_ret2
      unfold RPutIs
      rw [HP.out]
      exact ⟨_, rfl, OwnG.nil _ _, ⟨_, vt, HH2.out⟩, ButX.ofBelow HB2.out⟩
    · have fz : ¬ (512 : Int) ≤ (n0 : Int) := by omega
      have fb : decide ((512 : Int) ≤ (n0 : Int)) = false := decide_eq_false fz
      go_upto_region 8 with (first
        | ((with_reducible refine wpl_empty rfl 30 5 rfl .u8 (fun _ => by kernel_rfl) ?_); go_must (intro w3 hown3 hb3 hs3; have HB3 := Lib.hid (HB2.out.trans (hb3.mono HB2.out.size)); have HT3 := Lib.hid (HT2.out.ext hb3); have HO3 := Lib.hid hown3; have HS3 := Lib.hid hb3.size; have k6 := HT3.out.cell 6; simp [row] at k6; clear hown3 hb3 hs3 c0))
        | (at_builtin; have _t := HO3; clear _t; go_must (obtain ⟨i0, hi, hz0, hz1, hz2⟩ := info_parts Chunk.info5; refine wpl_append rfl (.tmp 38) (.tmp 40) 30 rfl .u8 w2.heap.size 5 1 i0 (.int .u8 0) Try.underlying30 hi hz0 hz1 hz2 rfl (.slice (some ⟨w2.heap.size, 0, none⟩) 0 0) _ [] p.data rfl rfl HO3.out (HL.out ▸ HR.out.below HB3.out) (by rw [HL.out]; simp [maxLen]; omega) (by rw [HL.out]; simp; omega) HS3.out ?_; clear hi hz0 hz1 hz2; intro v4 w4 hv4 hg4; rw [List.nil_append] at hv4; have HT4 := Lib.hid (HT3.out.kept' hg4 (own_ne HO3.out HT3.out (by decide))); have HV4 := Lib.hid hv4; have HB4 := Lib.hid (HB3.out.grown hg4 HB3.out.size (fun q e => by cases e; exact HB2.out.size)); obtain ⟨q4, c4, hvv, _⟩ := id hv4.reads; rw [HL.out] at hvv; subst hvv; clear hv4 hg4 HO3 k6))
        | ((with_reducible refine wpl_storeC rfl 30 (.tmp 42) (.tmp 41) rfl rfl W0.heap.size 6 45 (row p (.slice pq L pc)).toArray (row p (.slice q4 L c4)).toArray (.slice q4 L c4) ?_ ?_ HT4.out ?_ (by kernel_rfl) ?_ ?_ ?_); rfl; rfl; exact (show (6 : Nat) < 7 by decide); rfl; rfl; go_must (intro w5 hat5 hg5; have HV5 := Lib.hid (HV4.out.kept hg5 (.inr (own_ne HV4.out HT4.out (by decide)))); have HB5 := Lib.hid (below_grown HB4.out hg5 HB4.out.size (Nat.le_refl _)); have HT5 := Lib.hid hat5; clear hat5 hg5)))
      have HRB5 := Lib.hid (HH.out.below HB5.out)
      have HZ5 := Lib.hid (Nat.le_trans HZ.out HB5.out.size)
      have HD5 := Lib.hid (Row.mono HV5.out (Nat.le_trans HZ.out HB2.out.size))
      have HGL := Lib.hid HRB5.out.row.lt
      have HC5 := Lib.hid (HRB5.out.row.cell 0)
      clear HB3 HT3 HS3 HB4 HT4 HV4 HV5 HT2 HH2
      refine MonoA.wp_region_A [0] 7 50 [some 43, some 44, some 45, some 46, some 47, some 48, some 49, some 50, some 51, some 52, none] [.val (.pointer (some ⟨g, 0, none⟩)), .val (.pointer (some ⟨g, 0, none⟩)), .val (.pointer (some ⟨g, 0, none⟩)), .val (.pointer (some ⟨g, 0, none⟩)), .val (.slice ph n0 ch), .val (.agg (row p (.slice q4 L c4)).toArray), .prp (oneQ p (.slice q4 L c4)), .prp (Mono.anyV), .val (.pointer (some ⟨g, 0, none⟩)), .val (.pointer (some ⟨g, 0, none⟩)), .prp (Mono.anyV)] (MidG w5 g (rbA (.slice ph n0 ch) vt bx.next) (.slice ph n0 ch) (fun v y => OwnQ Z y v (bx.held ++ [p]))) (FinG w5 g 0 (rbA (.slice ph n0 ch) vt bx.next) (.slice ph n0 ch) (fun v y => OwnQ Z y v (bx.held ++ [p]))) (by kernel_rfl) (by kernel_rfl) (by kernel_rfl) (of_decide_eq_true (by kernel_rfl)) rfl rfl rfl rfl (by kernel_rfl) (by kernel_rfl) _ _ rfl rfl ?_ ?_ ?_ ?_ ?_
      · simp only [MonoA.HeadGoals, List.take_succ_cons, List.take_zero, and_true]
        refine ⟨?_, ?_, ?_, ?_, ?_, ?_, ?_⟩
        · rw [if_pos (by decide)]
          intro a u hsu hdu
          have z0 : a.eval (.tmp 0) = _ := hsu 0 (by decide)
          simp [Act.eval] at z0
          exact ⟨_, rfl, MonoA.float_val (by simp [execOp, z0, go_sem])⟩
        · rw [if_neg (by decide)]
          intro a u hbu hsu hdu
          have q1 := (hbu.cell (p := ⟨g, 0, none⟩) HGL.out).trans HC5.out; simp [rbA] at q1
          exact Mono.ok_move (.tmp 0) rfl (hsu 0 (by decide))
        · rw [if_neg (by decide)]
          intro a u hbu hsu hdu
          have q1 := (hbu.cell (p := ⟨g, 0, none⟩) HGL.out).trans HC5.out; simp [rbA] at q1
          have z44 : a.eval (.tmp 44) = .pointer (some ⟨g, 0, none⟩) := Mono.dep_at hdu (i := 1) (d := 44) rfl rfl rfl
          simp [Act.eval] at z44
          exact Mono.ok_val (.pointer (some ⟨g, 0, none⟩)) (by simp [execOp, z44, go_sem, q1]) rfl
        · rw [if_neg (by decide)]
          intro a u hbu hsu hdu
          have q1 := (hbu.cell (p := ⟨g, 0, none⟩) HGL.out).trans HC5.out; simp [rbA] at q1
          have z45 : a.eval (.tmp 45) = .pointer (some ⟨g, 0, none⟩) := Mono.dep_at hdu (i := 2) (d := 45) rfl rfl rfl
          simp [Act.eval] at z45
          exact Mono.ok_val (.pointer (some ⟨g, 0, none⟩)) (by simp [execOp, z45, go_sem, q1]) rfl
        · rw [if_neg (by decide)]
          intro a u hbu hsu hdu
          have q1 := (hbu.cell (p := ⟨g, 0, none⟩) HGL.out).trans HC5.out; simp [rbA] at q1
          have z46 : a.eval (.tmp 46) = .pointer (some ⟨g, 0, none⟩) := Mono.dep_at hdu (i := 3) (d := 46) rfl rfl rfl
          simp [Act.eval] at z46
          exact Mono.ok_val (.slice ph n0 ch) (by simp [execOp, z46, go_sem, q1]) rfl
        · rw [if_neg (by decide)]
          intro a u hbu hsu hdu
          have q1 := (hbu.cell (p := ⟨g, 0, none⟩) HGL.out).trans HC5.out; simp [rbA] at q1
          exact Mono.ok_loadE 45 (.tmp 3) rfl W0.heap.size 0 (row p (.slice q4 L c4)).toArray _ (Chunk.range_head (HT5.out.ext hbu) 7) Try.underlying45 rfl (by kernel_rfl) (hsu 3 (by decide)) rfl
        · rw [if_neg (by decide)]
          intro a u hbu hsu hdu
          have q1 := (hbu.cell (p := ⟨g, 0, none⟩) HGL.out).trans HC5.out; simp [rbA] at q1
          have e1 : a.eval (.tmp 48) = .agg (row p (.slice q4 L c4)).toArray := Mono.dep_at hdu (i := 5) (d := 48) rfl rfl rfl
          have hbz := (Below.refl u.heap.size u).alloc (Nat.le_refl _) (.cells (row p (.slice q4 L c4)).toArray 45)
          exact Mem.wp_build 35 1 (.tmp 48) rfl _ _ _ e1 (build35 p (.slice q4 L c4) u) ⟨_, rfl, hbz, _, rfl, At.new u 45 _⟩
      · intro a u hbu hsu hdu
        have q1 := (hbu.cell (p := ⟨g, 0, none⟩) HGL.out).trans HC5.out; simp [rbA] at q1
        have z47 : a.eval (.tmp 47) = .slice ph n0 ch := Mono.dep_at hdu (i := 4) (d := 47) rfl rfl rfl
        obtain ⟨g0, e0, hat0⟩ : (oneQ p (.slice q4 L c4)).R (a.eval (.tmp 49)) u := Mono.dep_at hdu (i := 6) (d := 49) rfl rfl rfl
        obtain ⟨v0, x0, hrun0, hm0⟩ := HRB5.out.midQ hbu hat0 (Row.below HD5.out hbu) HZ5.out
        exact wp_appendV 35 (.tmp 47) (.tmp 49) rfl _ _ _ _ z47 e0 hrun0 ⟨_, rfl, hm0⟩
      · simp only [MonoA.FloatGoals, List.drop_succ_cons, List.drop_zero, List.dropLast_cons_cons, List.dropLast_singleton, and_true]
        refine ⟨?_, ?_⟩
        · intro a u hsu hdu
          have z43 : a.eval (.tmp 43) = .pointer (some ⟨g, 0, none⟩) := Mono.dep_at hdu (i := 0) (d := 43) rfl rfl rfl
          simp [Act.eval] at z43
          exact ⟨_, rfl, MonoA.float_val (by simp [execOp, z43, go_sem])⟩
        · intro a u hsu hdu
          have z51 : a.eval (.tmp 51) = .pointer (some ⟨g, 0, none⟩) := Mono.dep_at hdu (i := 8) (d := 51) rfl rfl rfl
          simp [Act.eval] at z51
          exact ⟨_, rfl, MonoA.float_val (by simp [execOp, z51, go_sem])⟩
      · intro a u v hmid hv hsu hdu
        have zp : a.eval (.tmp 52) = .pointer (some ⟨g, 0, none⟩) := Mono.dep_at hdu (i := 9) (d := 52) rfl rfl rfl
        exact wp_storeC 35 (.tmp 52) (.tmp 50) rfl rfl g 0 56 _ _ v zp hv hmid.row (by show (0 : Nat) < 10; decide) (by kernel_rfl) hmid.one rfl (fun y hat hg => ⟨undef, rfl, _, hmid, hg, hat⟩)
      intro v x hfin us
      have hok8 : S.ok { bx with held := bx.held ++ [p] } := S.ok_add HRB5.out.ok HIN.out HNO.out (by rw [HN0.out]; omega)
      obtain ⟨hB8, hX8⟩ := FinG.heldB HRB5.out hfin hok8
      have hT8 : At x W0.heap.size 45 (row p (.slice q4 L c4)).toArray := by
        obtain ⟨y, hm, hg, hat⟩ := hfin
        have hlt : ∀ q, (Value.slice ph n0 ch).ownBlock = some q → q < W0.heap.size := by
          obtain ⟨zs, _, h2, _⟩ := HH.out.held
          exact fun q hq => (h2.lt q hq).2
        have h1 := HT5.out.kept' hm.grown (fun e => by have := hlt _ e; omega)
        exact h1.grown hg (by have := HH.out.row.lt; omega)
      have HT8 := Lib.hid hT8
      have HX8 := Lib.hid (rx_trans (ButX.ofBelow HB5.out (X := RX Z W0)) hX8)
      have HNE := Lib.hid (show W0.heap.size ≠ g by have := HH.out.row.lt; omega)
      obtain ⟨hh, hhd⟩ : ∃ hh, bx.held ++ [p] = hh := ⟨_, rfl⟩
      have HHD := Lib.hid hhd
      rw [hhd] at hB8 hok8
      have HB8 := Lib.hid hB8
      have HGP := Lib.hid (show getH hh p.tsn = some p by rw [← hhd, getH_app HNO.out, if_pos rfl])
      have HLH := Lib.hid (show hh.length ≤ 512 by rw [← hhd, List.length_append, List.length_singleton, HN0.out]; omega)
      have HFL := Lib.hid (show ¬ 512 ≤ bx.held.length by rw [HN0.out]; exact hfull)
      have HPS := Lib.hid (fun F n (h : wholeF hh p = (F, n)) (h0 : 0 < n) => by have h1 := put_hit HNB.out HNO.out HFL.out (F := F) (n := n) (by rw [hhd]; exact h) h0; rw [hhd] at h1; exact h1)
      have HPM := Lib.hid (fun (h : (wholeF hh p).2 = 0) => by have h1 := put_miss HNB.out HNO.out HFL.out (by rw [hhd]; exact h); rw [hhd] at h1; exact h1)
      obtain ⟨w8, hw8⟩ : ∃ w8, x = w8 := ⟨_, rfl⟩
      rw [hw8] at HT8 HX8 HB8 ⊢
      clear hfin hT8 hX8 hhd hB8 hok8 hw8 HRB5 HZ5 HD5 HGL HC5 HT5 HB5
      have HS8 := Lib.hid HX8.out.size
      simp [Act.put, MonoU.pick]
      go_upto_region 10 with fail
      go_loopw [6] (fun v6 wr => ∃ back : Nat, v6 = .int .u32 (back : Int) ∧ Hid (back ≤ 512 ∧ ∀ b : Nat, b < back → fromF hh (stp p.tsn (-(b : Int))) ≤ b) ∧ Hid (Below w8.heap.size w8 wr)) (fun v6 _ => 512 - (intOf v6).toNat)
      case atStart => exact ⟨0, rfl, ⟨Nat.zero_le _, fun b hb => absurd hb (Nat.not_lt_zero b)⟩, Below.refl _ _⟩
      case round =>
        obtain ⟨back, rfl, HK, HBr⟩ := hrel
        by_cases hlt : back < 512
        · have hltz : (back : Int) < 512 := by omega
          have hltb : decide ((back : Int) < 512) = true := decide_eq_true hltz
          have HRr := Lib.hid (HB8.out.below HBr.out)
          have HTr := Lib.hid (HT8.out.ext HBr.out)
          have m0 := HTr.out.cell 0
          simp [row] at m0
          go_upto_region 13 with fail
          have hst : (p.tsn - (back : Int)) % 4294967296 = stp p.tsn (-(back : Int)) := by unfold stp; rw [Bx.wrap32, Int.sub_eq_add_neg]
          rw [hst]
          obtain ⟨F, hF⟩ : ∃ F, stp p.tsn (-(back : Int)) = F := ⟨_, rfl⟩
          have HFF := Lib.hid hF
          have HUF := Lib.hid (show isU32 F by rw [← hF]; exact u32_wrap _)
          rw [hF]
          obtain ⟨n, hn⟩ : ∃ n, fromF hh F = n := ⟨_, rfl⟩
          have HFN := Lib.hid hn
          have PF := Lib.hid (show Calls Try.prog 27 #[.pointer (some ⟨g, 0, none⟩), .int .u32 F] wr (fun e w' => e = .returned (.int .i64 (n : Int)) ∧ Below wr.heap.size wr w') by have h1 := from27 HRr.out F HUF.out; rw [show ({ bx with held := hh } : S).held = hh from rfl] at h1; unfold FromIs at h1; rw [hn] at h1; exact h1)
          clear hst hF hn m0
          by_cases hle : n ≤ back
          · have hlez : (n : Int) ≤ (back : Int) := by omega
            have hleb : decide ((n : Int) ≤ (back : Int)) = true := decide_eq_true hlez
            go_wp2_with (go_at_call 27; go_must (refine PF.out.mono ?_; rintro e w9 ⟨rfl, hb9⟩; have HB9 := Lib.hid (HBr.out.trans (hb9.mono HBr.out.size)); clear hb9))
            go_roundw
            case rel => exact ⟨back + 1, by go_num, ⟨by omega, fun b hb => by
              by_cases e : b = back
              · subst e; rw [HFF.out, HFN.out]; exact hle
              · exact HK.out.2 b (by omega)⟩, HB9.out⟩
            case measure => simp [intOf]; omega
          · have hlez : ¬ (n : Int) ≤ (back : Int) := by omega
            have hleb : decide ((n : Int) ≤ (back : Int)) = false := decide_eq_false hlez
            have hw : wholeF hh p = (F, n) := by
              have h1 := search_hit (b := back) HGP.out HU.out HLH.out (by rw [HFF.out, HFN.out]; omega)
              rw [HFF.out, HFN.out] at h1
              exact h1
            obtain ⟨k, hk⟩ : ∃ k, n = k + 1 := ⟨n - 1, by omega⟩
            have hall := whole_all (h := hh) HU.out (by rw [← hk]; exact hw)
            have hn512 : n ≤ 512 := by have := HLH.out; omega
            have HALL := Lib.hid (show ∀ k : Nat, k < n → (getH hh (stp F (k : Int))).isSome = true by intro j hj; exact hall.2.2 j (by omega))
            have HPUT := Lib.hid (HPS.out F n hw (by omega))
            have HN512 := Lib.hid hn512
            obtain ⟨tk, htk⟩ : ∃ tk, takeF n hh F [] = tk := ⟨_, rfl⟩
            rw [htk] at HPUT
            have HTK := Lib.hid htk
            have HFNZ := Lib.hid (show 0 < n by omega)
            have HB8o := Lib.hid HB8.out
            have HS98 := Lib.hid HBr.out.size
            clear hw hk hall htk
            go_upto_region 16 with (first
              | (go_at_call 27; go_must (refine PF.out.mono ?_; rintro e w9 ⟨rfl, hb9⟩; have HR9 := Lib.hid (HRr.out.below hb9); have HT9 := Lib.hid (HTr.out.ext hb9); have HB9 := Lib.hid (HBr.out.trans (hb9.mono HBr.out.size)); have HZ9 := Lib.hid (Nat.le_trans HZ.out (Nat.le_trans HS8.out HB9.out.size)); have HS98 := Lib.hid HB9.out.size; clear hb9))
              | (go_at_call 28; go_must (refine (out28 HR9.out F HUF.out n HN512.out HALL.out HZ9.out).mono ?_; rintro e w10 ⟨vd, vh2, rfl, hd, hR, hX, hG⟩; rw [show takeF n ({ bx with held := hh } : S).held F [] = tk from HTK.out] at hd hR; have HD10 := Lib.hid hd; have HR10 := Lib.hid hR; have HX10 := Lib.hid (rx_trans (rx_below HX8.out HB9.out) hX); have HT10 := Lib.hid (Chunk.at_but HT9.out hG HNE.out); clear hd hR hX hG)))
            have m1 := HT10.out.cell 1
            have m2 := HT10.out.cell 2
            have m5 := HT10.out.cell 5
            simp [row] at m1 m2 m5
            have HS10 := Lib.hid HX10.out.size
            clear HR9 HT9 HB9 HZ9 PF HRr HTr HK HBr HB8 HX8 HT8
            cases hun : p.un with
            | true =>
              rw [hun] at m5 HPUT
              have HPUT2 := Lib.hid (HPUT.out.trans (if_pos (by rfl)))
              obtain ⟨pd, cd, hvd, _⟩ := id HD10.out.reads
              subst hvd
              go_wp2_with fail
              go_ret2
              unfold RPutIs
              rw [HPUT2.out]
              have hrow : Row .u8 5 0 w10 (.slice pd tk.2.length cd) tk.2 := Row.mono HD10.out (Nat.zero_le _)
              have hbz := (Below.refl w10.heap.size w10).alloc (Nat.le_refl _) (.cells (rowG ⟨p.stream, tk.2⟩ (.slice pd tk.2.length cd)).toArray 32)
              exact ⟨_, rfl, OwnG.mono (OwnG.one w10 ⟨p.stream, tk.2⟩ (.slice pd tk.2.length cd) hrow) HS10.out, ⟨vh2, vt, HR10.out.below hbz⟩, rx_below HX10.out hbz⟩
            | false =>
              rw [hun] at m5 HPUT
              have HPUT2 := Lib.hid (HPUT.out.trans (if_neg (by decide)))
              obtain ⟨pd, cd, hvd, _⟩ := id HD10.out.reads
              obtain ⟨xd, hxd⟩ : ∃ xd, tk.2.length = xd := ⟨_, rfl⟩
              rw [hxd] at hvd
              subst hvd
              have HXD := Lib.hid hxd
              obtain ⟨pt, ct, hvt, hmc, hct⟩ := HR10.out.wait.shape
              obtain ⟨M, hM⟩ : ∃ M, bx.wait.length = M := ⟨_, rfl⟩
              dsimp only at hvt hmc
              rw [hM] at hvt hmc
              subst hvt
              have HM := Lib.hid hM
              have hM63 : M ≤ 999990 := by rw [← hM]; exact HWL.out
              clear hM hxd hun HPUT HPS HPM m1 m2
              go_upto_region 20 with fail
              clear m5
              go_loopw [10, 11] (fun v10 v11 wr => ∃ i : Nat, v11 = .int .i64 (i : Int) ∧ v10 = .bool ((bx.wait.take i).any fun y => y.s == p.stream && y.q == p.seq) ∧ Hid (i ≤ M) ∧ Hid (Below w10.heap.size w10 wr)) (fun _ v11 _ => M - (intOf v11).toNat)
              case atStart => exact ⟨0, rfl, by simp, Nat.zero_le _, Below.refl _ _⟩
              case round =>
                obtain ⟨i, rfl, rfl, HI, HBL⟩ := hrel
                have HRr := Lib.hid (HR10.out.below HBL.out)
                have HTr := Lib.hid (HT10.out.ext HBL.out)
                have c1 := HRr.out.row.cell 1
                simp [rbA] at c1
                obtain ⟨th, hth⟩ : ∃ th, ((bx.wait.take i).any fun y => y.s == p.stream && y.q == p.seq) = th := ⟨_, rfl⟩
                have HTH := Lib.hid hth
                rw [hth]
                clear hth
                by_cases hlt : i < M
                · have hltz : (i : Int) < (M : Int) := by omega
                  have hltb : decide ((i : Int) < (M : Int)) = true := decide_eq_true hltz
                  obtain ⟨y, hy⟩ : ∃ y, bx.wait[i]? = some y := ⟨bx.wait[i]'(by rw [HM.out]; exact hlt), by simp⟩
                  obtain ⟨q, c, pe, me, hv, _, hlc, hql, hra, hrow⟩ := HRr.out.atW (x := { bx with held := tk.1 }) hy
                  dsimp only at hv hlc
                  rw [HM.out] at hv hlc
                  simp only [Value.slice.injEq, true_and] at hv
                  obtain ⟨rfl, rfl⟩ := hv
                  have g0 := hra 0 _ rfl
                  have g1 := hra 1 _ rfl
                  rw [Nat.add_zero] at g0
                  have HY := Lib.hid hy
                  have m1 := HTr.out.cell 1
                  have m2 := HTr.out.cell 2
                  simp [row] at m1 m2
                  clear hy hra hrow hql
                  go_upto_region 22 with fail
                  cases th with
                  | true =>
                    clear g0 g1 m1 m2 c1
                    go_quiet (fail)
                    go_wp2_with fail
                    exact ⟨⟨i + 1, by go_num, by rw [any_take HY.out, HTH.out]; rfl, (by show i + 1 ≤ M; omega), HBL.out.trans ((below_drewN wr nq).mono HBL.out.size)⟩, by simp [intOf]; omega⟩
                  | false =>
                    by_cases e1 : y.s = p.stream
                    · have e1b : (y.s == p.stream) = true := by simpa using e1
                      by_cases e2 : y.q = p.seq
                      · have e2b : (y.q == p.seq) = true := by simpa using e2
                        have HE := Lib.hid (show (y.s == p.stream && y.q == p.seq) = true by rw [e1b, e2b]; rfl)
                        clear e1 e2
                        go_quiet (fail)
                        go_wp2_with fail
                        exact ⟨⟨i + 1, by go_num, by rw [any_take HY.out, HE.out]; simp, (by show i + 1 ≤ M; omega), HBL.out.trans ((below_drewN wr nq).mono HBL.out.size)⟩, by simp [intOf]; omega⟩
                      · have e2b : (y.q == p.seq) = false := by simpa using e2
                        have HE := Lib.hid (show (y.s == p.stream && y.q == p.seq) = false by rw [e1b, e2b]; rfl)
                        clear e1 e2
                        go_quiet (fail)
                        go_wp2_with fail
                        exact ⟨⟨i + 1, by go_num, by rw [any_take HY.out, HE.out, HTH.out]; rfl, (by show i + 1 ≤ M; omega), HBL.out.trans ((below_drewN wr nq).mono HBL.out.size)⟩, by simp [intOf]; omega⟩
                    · have e1b : (y.s == p.stream) = false := by simpa using e1
                      have HE := Lib.hid (show (y.s == p.stream && y.q == p.seq) = false by rw [e1b]; rfl)
                      clear e1 m2 g1
                      go_quiet (fail)
                      go_wp2_with fail
                      exact ⟨⟨i + 1, by go_num, by rw [any_take HY.out, HE.out, HTH.out]; rfl, (by show i + 1 ≤ M; omega), HBL.out.trans ((below_drewN wr nq).mono HBL.out.size)⟩, by simp [intOf]; omega⟩
                · have hltz : ¬ (i : Int) < (M : Int) := by omega
                  have hltb : decide ((i : Int) < (M : Int)) = false := decide_eq_false hltz
                  have hiM : i = M := by have := HI.out; omega
                  have hall : bx.wait.take i = bx.wait := List.take_of_length_le (by rw [HM.out]; omega)
                  have HSOME := Lib.hid (show (getW bx.wait p.stream p.seq).isSome = th by rw [getW_any, ← HTH.out, hall])
                  clear hall hiM
                  obtain ⟨sn, hsn⟩ : ∃ sn : Nat, p.stream = (sn : Int) := ⟨p.stream.toNat, by omega⟩
                  have hsn8 : sn < 8 := by omega
                  have htn : p.stream.toNat = sn := by omega
                  have HXr := Lib.hid (rx_below HX10.out HBL.out)
                  have HZr := Lib.hid (Nat.le_trans HZ.out HXr.out.size)
                  have m1 := HTr.out.cell 1
                  simp [row] at m1
                  cases th with
                  | true =>
                    have HWF := Lib.hid (show waitF bx.wait p tk.2 = bx.wait by unfold waitF; rw [if_pos HSOME.out])
                    have PT := Lib.hid (show Calls Try.prog 29 #[.pointer (some ⟨g, 0, none⟩), .int .u16 p.stream] wr (TurnsIs Z wr g vh2 { bx with held := tk.1 } p.stream.toNat) by rw [htn, hsn]; exact turns29 HRr.out sn hsn8 (by show bx.wait.length ≤ _; rw [HM.out]; omega) HZr.out)
                    clear hsn htn hsn8
                    go_wp2_with (go_at_call 29; go_must (refine PT.out.mono ?_; rintro e w13 ⟨v13, vt13, rfl, hv, hR13, hX13⟩; have HV13 := Lib.hid (And.intro hv (And.intro hR13 hX13)); clear hv hR13 hX13))
                    go_ret2
                    unfold RPutIs
                    rw [HPUT2.out, HWF.out]
                    exact ⟨_, rfl, OwnG.mono HV13.out.1 HXr.out.size, ⟨vh2, vt13, HV13.out.2.1⟩, rx_trans HXr.out HV13.out.2.2⟩
                  | false =>
                    have hno : getW bx.wait p.stream p.seq = none := by have := HSOME.out; cases h : getW bx.wait p.stream p.seq with | none => rfl | some _ => rw [h] at this; cases this
                    have HWF := Lib.hid (show waitF bx.wait p tk.2 = bx.wait ++ [⟨p.stream, p.seq, tk.2⟩] by unfold waitF; rw [hno]; rfl)
                    have hto := take_ok n (h := hh) (t := F) (acc := []) (fun a ha => by have := HB8o.out.ok.1.2.2 a ha; exact this) (fun z hz => by cases hz) HUF.out HN512.out HALL.out
                    rw [HTK.out] at hto
                    have hokw : S.ok { ({ bx with held := tk.1 } : S) with wait := bx.wait ++ [⟨p.stream, p.seq, tk.2⟩] } := S.ok_addW (x := { bx with held := tk.1 }) HRr.out.ok HIN.out.1.2.1 HIN.out.1.2.2.1 hto.1 (by have := hto.2.1; have := HFNZ.out; simp at *; omega) (by have := hto.2.2; have := HN512.out; simp at *; omega) hno
                    have HOKW := Lib.hid hokw
                    have HC1 := Lib.hid (HRr.out.row.cell 1)
                    have HGL := Lib.hid HRr.out.row.lt
                    have HDr := Lib.hid (Row.mono (Row.below HD10.out HBL.out) (Nat.le_trans HZ.out (Nat.le_trans HS8.out HS98.out)))
                    clear hno hto hokw
                    go_upto_region 24 with fail
                    clear c1 m1
                    refine MonoA.wp_region_A [0] 12 129 [some 117, some 118, some 119, some 120, some 121, some 122, some 123, some 124, some 125, some 126, some 127, some 128, some 129, some 130, some 131, none] [.val (.pointer (some ⟨g, 0, none⟩)), .val (.pointer (some ⟨g, 0, none⟩)), .val (.pointer (some ⟨g, 0, none⟩)), .val (.pointer (some ⟨g, 1, none⟩)), .val (.slice pt M ct), .val (.pointer (some ⟨W0.heap.size, 1, none⟩)), .val (.int .u16 p.stream), .val (.pointer (some ⟨W0.heap.size, 2, none⟩)), .val (.int .u16 p.seq), .val (.slice pd xd cd), .val (.agg (rowT ⟨p.stream, p.seq, tk.2⟩ (.slice pd xd cd)).toArray), .prp (oneT ⟨p.stream, p.seq, tk.2⟩ (.slice pd xd cd)), .prp (Mono.anyV), .val (.pointer (some ⟨g, 0, none⟩)), .val (.pointer (some ⟨g, 1, none⟩)), .prp (Mono.anyV)] (MidG wr g (rbA vh2 (.slice pt M ct) bx.next) (.slice pt M ct) (fun v y => OwnT Z y v (bx.wait ++ [⟨p.stream, p.seq, tk.2⟩]))) (FinG wr g 1 (rbA vh2 (.slice pt M ct) bx.next) (.slice pt M ct) (fun v y => OwnT Z y v (bx.wait ++ [⟨p.stream, p.seq, tk.2⟩]))) (by kernel_rfl) (by kernel_rfl) (by kernel_rfl) (of_decide_eq_true (by kernel_rfl)) rfl rfl rfl rfl (by kernel_rfl) (by kernel_rfl) _ _ rfl rfl ?_ ?_ ?_ ?_ ?_
                    · simp only [MonoA.HeadGoals, List.take_succ_cons, List.take_zero, and_true]
                      refine ⟨?_, ?_, ?_, ?_, ?_, ?_, ?_, ?_, ?_, ?_, ?_, ?_⟩
                      · rw [if_pos (by decide)]
                        intro a u hsu hdu
                        have z0 : a.eval (.tmp 0) = _ := hsu 0 (by decide)
                        simp [Act.eval] at z0
                        exact ⟨_, rfl, MonoA.float_val (by simp [execOp, z0, go_sem])⟩
                      · rw [if_neg (by decide)]
                        intro a u hbu hsu hdu
                        have q1 := (hbu.cell (p := ⟨g, 1, none⟩) HGL.out).trans HC1.out; have T3 := HTr.out.ext hbu; have m1 := T3.cell 1; have m2 := T3.cell 2; simp [rbA, row] at q1 m1 m2
                        exact Mono.ok_move (.tmp 0) rfl (hsu 0 (by decide))
                      · rw [if_neg (by decide)]
                        intro a u hbu hsu hdu
                        have q1 := (hbu.cell (p := ⟨g, 1, none⟩) HGL.out).trans HC1.out; have T3 := HTr.out.ext hbu; have m1 := T3.cell 1; have m2 := T3.cell 2; simp [rbA, row] at q1 m1 m2
                        have z118 : a.eval (.tmp 118) = .pointer (some ⟨g, 0, none⟩) := Mono.dep_at hdu (i := 1) (d := 118) rfl rfl rfl
                        simp [Act.eval] at z118
                        exact Mono.ok_val (.pointer (some ⟨g, 0, none⟩)) (by simp [execOp, z118, go_sem, q1, m1, m2]) rfl
                      · rw [if_neg (by decide)]
                        intro a u hbu hsu hdu
                        have q1 := (hbu.cell (p := ⟨g, 1, none⟩) HGL.out).trans HC1.out; have T3 := HTr.out.ext hbu; have m1 := T3.cell 1; have m2 := T3.cell 2; simp [rbA, row] at q1 m1 m2
                        have z119 : a.eval (.tmp 119) = .pointer (some ⟨g, 0, none⟩) := Mono.dep_at hdu (i := 2) (d := 119) rfl rfl rfl
                        simp [Act.eval] at z119
                        exact Mono.ok_val (.pointer (some ⟨g, 1, none⟩)) (by simp [execOp, z119, go_sem, q1, m1, m2]) rfl
                      · rw [if_neg (by decide)]
                        intro a u hbu hsu hdu
                        have q1 := (hbu.cell (p := ⟨g, 1, none⟩) HGL.out).trans HC1.out; have T3 := HTr.out.ext hbu; have m1 := T3.cell 1; have m2 := T3.cell 2; simp [rbA, row] at q1 m1 m2
                        have z120 : a.eval (.tmp 120) = .pointer (some ⟨g, 1, none⟩) := Mono.dep_at hdu (i := 3) (d := 120) rfl rfl rfl
                        simp [Act.eval] at z120
                        exact Mono.ok_val (.slice pt M ct) (by simp [execOp, z120, go_sem, q1, m1, m2]) rfl
                      · rw [if_neg (by decide)]
                        intro a u hbu hsu hdu
                        have q1 := (hbu.cell (p := ⟨g, 1, none⟩) HGL.out).trans HC1.out; have T3 := HTr.out.ext hbu; have m1 := T3.cell 1; have m2 := T3.cell 2; simp [rbA, row] at q1 m1 m2
                        have z3 : a.eval (.tmp 3) = .pointer (some ⟨W0.heap.size, 0, none⟩) := hsu 3 (by decide)
                        simp [Act.eval] at z3
                        exact Mono.ok_val (.pointer (some ⟨W0.heap.size, 1, none⟩)) (by simp [execOp, z3, go_sem, q1, m1, m2]) rfl
                      · rw [if_neg (by decide)]
                        intro a u hbu hsu hdu
                        have q1 := (hbu.cell (p := ⟨g, 1, none⟩) HGL.out).trans HC1.out; have T3 := HTr.out.ext hbu; have m1 := T3.cell 1; have m2 := T3.cell 2; simp [rbA, row] at q1 m1 m2
                        have z122 : a.eval (.tmp 122) = .pointer (some ⟨W0.heap.size, 1, none⟩) := Mono.dep_at hdu (i := 5) (d := 122) rfl rfl rfl
                        simp [Act.eval] at z122
                        exact Mono.ok_val (.int .u16 p.stream) (by simp [execOp, z122, go_sem, q1, m1, m2]) rfl
                      · rw [if_neg (by decide)]
                        intro a u hbu hsu hdu
                        have q1 := (hbu.cell (p := ⟨g, 1, none⟩) HGL.out).trans HC1.out; have T3 := HTr.out.ext hbu; have m1 := T3.cell 1; have m2 := T3.cell 2; simp [rbA, row] at q1 m1 m2
                        have z3 : a.eval (.tmp 3) = .pointer (some ⟨W0.heap.size, 0, none⟩) := hsu 3 (by decide)
                        simp [Act.eval] at z3
                        exact Mono.ok_val (.pointer (some ⟨W0.heap.size, 2, none⟩)) (by simp [execOp, z3, go_sem, q1, m1, m2]) rfl
                      · rw [if_neg (by decide)]
                        intro a u hbu hsu hdu
                        have q1 := (hbu.cell (p := ⟨g, 1, none⟩) HGL.out).trans HC1.out; have T3 := HTr.out.ext hbu; have m1 := T3.cell 1; have m2 := T3.cell 2; simp [rbA, row] at q1 m1 m2
                        have z124 : a.eval (.tmp 124) = .pointer (some ⟨W0.heap.size, 2, none⟩) := Mono.dep_at hdu (i := 7) (d := 124) rfl rfl rfl
                        simp [Act.eval] at z124
                        exact Mono.ok_val (.int .u16 p.seq) (by simp [execOp, z124, go_sem, q1, m1, m2]) rfl
                      · rw [if_neg (by decide)]
                        intro a u hbu hsu hdu
                        have q1 := (hbu.cell (p := ⟨g, 1, none⟩) HGL.out).trans HC1.out; have T3 := HTr.out.ext hbu; have m1 := T3.cell 1; have m2 := T3.cell 2; simp [rbA, row] at q1 m1 m2
                        exact Mono.ok_move (.tmp 9) rfl (hsu 9 (by decide))
                      · rw [if_neg (by decide)]
                        intro a u hbu hsu hdu
                        have q1 := (hbu.cell (p := ⟨g, 1, none⟩) HGL.out).trans HC1.out; have T3 := HTr.out.ext hbu; have m1 := T3.cell 1; have m2 := T3.cell 2; simp [rbA, row] at q1 m1 m2
                        have z123 : a.eval (.tmp 123) = .int .u16 p.stream := Mono.dep_at hdu (i := 6) (d := 123) rfl rfl rfl
                        simp [Act.eval] at z123
                        have z125 : a.eval (.tmp 125) = .int .u16 p.seq := Mono.dep_at hdu (i := 8) (d := 125) rfl rfl rfl
                        simp [Act.eval] at z125
                        have z126 : a.eval (.tmp 126) = .slice pd xd cd := Mono.dep_at hdu (i := 9) (d := 126) rfl rfl rfl
                        simp [Act.eval] at z126
                        exact Mono.ok_build 85 _ rfl #[(0, .int .u16 p.stream), (1, .int .u16 p.seq), (2, .slice pd xd cd)] (by simp [z123, z125, z126, Act.eval]) (.agg (rowT ⟨p.stream, p.seq, tk.2⟩ (.slice pd xd cd)).toArray) (by kernel_rfl) rfl
                      · rw [if_neg (by decide)]
                        intro a u hbu hsu hdu
                        have q1 := (hbu.cell (p := ⟨g, 1, none⟩) HGL.out).trans HC1.out; have T3 := HTr.out.ext hbu; have m1 := T3.cell 1; have m2 := T3.cell 2; simp [rbA, row] at q1 m1 m2
                        have e1 : a.eval (.tmp 127) = .agg (rowT ⟨p.stream, p.seq, tk.2⟩ (.slice pd xd cd)).toArray := Mono.dep_at hdu (i := 10) (d := 127) rfl rfl rfl
                        have hbz := (Below.refl u.heap.size u).alloc (Nat.le_refl _) (.cells (rowT ⟨p.stream, p.seq, tk.2⟩ (.slice pd xd cd)).toArray 85)
                        exact Mem.wp_build 54 1 (.tmp 127) rfl _ _ _ e1 (build54 _ _ u) ⟨_, rfl, hbz, _, rfl, At.new u 85 _⟩
                    · intro a u hbu hsu hdu
                      have q1 := (hbu.cell (p := ⟨g, 1, none⟩) HGL.out).trans HC1.out; have T3 := HTr.out.ext hbu; have m1 := T3.cell 1; have m2 := T3.cell 2; simp [rbA, row] at q1 m1 m2
                      have z121 : a.eval (.tmp 121) = .slice pt M ct := Mono.dep_at hdu (i := 4) (d := 121) rfl rfl rfl
                      obtain ⟨g0, e0, hat0⟩ : (oneT ⟨p.stream, p.seq, tk.2⟩ (.slice pd xd cd)).R (a.eval (.tmp 128)) u := Mono.dep_at hdu (i := 11) (d := 128) rfl rfl rfl
                      obtain ⟨v0, x0, hrun0, hm0⟩ := HRr.out.midT hbu hat0 (Row.below HDr.out hbu) HZr.out HWL.out
                      exact wp_appendV 54 (.tmp 121) (.tmp 128) rfl _ _ _ _ z121 e0 hrun0 ⟨_, rfl, hm0⟩
                    · simp only [MonoA.FloatGoals, List.drop_succ_cons, List.drop_zero, List.dropLast_cons_cons, List.dropLast_singleton, and_true]
                      refine ⟨?_, ?_⟩
                      · intro a u hsu hdu
                        have z117 : a.eval (.tmp 117) = .pointer (some ⟨g, 0, none⟩) := Mono.dep_at hdu (i := 0) (d := 117) rfl rfl rfl
                        simp [Act.eval] at z117
                        exact ⟨_, rfl, MonoA.float_val (by simp [execOp, z117, go_sem])⟩
                      · intro a u hsu hdu
                        have z130 : a.eval (.tmp 130) = .pointer (some ⟨g, 0, none⟩) := Mono.dep_at hdu (i := 13) (d := 130) rfl rfl rfl
                        simp [Act.eval] at z130
                        exact ⟨_, rfl, MonoA.float_val (by simp [execOp, z130, go_sem])⟩
                    · intro a u v hmid hv hsu hdu
                      have zp : a.eval (.tmp 131) = .pointer (some ⟨g, 1, none⟩) := Mono.dep_at hdu (i := 14) (d := 131) rfl rfl rfl
                      exact wp_storeC 54 (.tmp 131) (.tmp 129) rfl rfl g 1 56 _ _ v zp hv hmid.row (by show (1 : Nat) < 10; decide) (by kernel_rfl) hmid.one rfl (fun y hat hg => ⟨undef, rfl, _, hmid, hg, hat⟩)
                    intro v x hfin us
                    obtain ⟨hB12, hX12⟩ := FinG.waitB HRr.out hfin HOKW.out
                    have hT12 : At x W0.heap.size 45 (row p (.slice q4 L c4)).toArray := by
                      obtain ⟨y, hm, hg, hat⟩ := hfin
                      obtain ⟨zs, _, h2, _⟩ := HRr.out.wait
                      have h1 := HTr.out.kept' hm.grown (own_ne h2 HTr.out (by decide))
                      exact h1.grown hg HNE.out
                    have HX12 := Lib.hid (rx_trans HXr.out hX12)
                    have PT := Lib.hid (show Calls Try.prog 29 #[.pointer (some ⟨g, 0, none⟩), .int .u16 p.stream] x (TurnsIs Z x g vh2 { ({ bx with held := tk.1 } : S) with wait := bx.wait ++ [⟨p.stream, p.seq, tk.2⟩] } p.stream.toNat) by rw [htn, hsn]; exact turns29 (by rw [hsn] at hB12; exact hB12) sn hsn8 (by show (bx.wait ++ _).length ≤ _; rw [List.length_append, HM.out]; simp; omega) (Nat.le_trans HZr.out hX12.size))
                    have m1 := hT12.cell 1
                    simp [row] at m1
                    clear hfin hB12 hX12 hT12 hsn htn hsn8
                    simp [Act.put, MonoU.pick]
                    go_wp2_with (go_at_call 29; go_must (refine PT.out.mono ?_; rintro e w13 ⟨v13, vt13, rfl, hv, hR13, hX13⟩; have HV13 := Lib.hid (And.intro hv (And.intro hR13 hX13)); clear hv hR13 hX13))
                    go_ret2
                    unfold RPutIs
                    rw [HPUT2.out, HWF.out]
                    exact ⟨_, rfl, OwnG.mono HV13.out.1 HX12.out.size, ⟨vh2, vt13, HV13.out.2.1⟩, rx_trans HX12.out HV13.out.2.2⟩
        · have hltz : ¬ (back : Int) < 512 := by omega
          have hltb : decide ((back : Int) < 512) = false := decide_eq_false hltz
          have HMS := Lib.hid (HPM.out (search_miss HGP.out HU.out HLH.out (fun b hb => HK.out.2 b (by omega))))
          go_wp2_with fail
          go_ret2
          unfold RPutIs
          rw [HMS.out]
          exact ⟨_, rfl, OwnG.nil _ _, ⟨_, vt, HB8.out.below HBr.out⟩, rx_below HX8.out HBr.out⟩
end Go.Proofs.Yteiiifonejkjbaa.Rb
