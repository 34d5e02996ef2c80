/-
  The law PeerElects: the walk.
-/
import Derived.Test.YtamemmbcdkhdhaaElect2
import Derived.LoopTactic
namespace Go.Proofs.Ytamemmbcdkhdhaa.Peer
open Go.RowKit Mem Cells Ops
set_option linter.unusedVariables false
set_option linter.unusedSimpArgs false

/-- Bools in a row. -/
structure ReadsB (W : World) (p : Option Addr) (n c : Nat) (xs : List Bool) : Prop where
  len : xs.length = n
  le : n ≤ c ∧ c ≤ maxLen
  at_ : ∀ (i : Nat) x, xs[i]? = some x → ∃ b off, p = some ⟨b, off, none⟩ ∧ b < W.heap.size ∧ W.cell? ⟨b, off + i, none⟩ = some (.bool x)
def zero32 : Array Value := #[.string .empty, .string .empty]
def jof (rev : Bool) (k : Nat) : Nat := if rev then 3 - k else k
set_option maxRecDepth 100000 in
set_option maxHeartbeats 800000 in
theorem electsSame (na nb : ByteArray) (v : Value) (w : World) (ha : na.size ≤ 9223372036854775807) (hb : nb.size ≤ 9223372036854775807) (hsame : winB na nb = winB nb na) :
    Calls Try.prog 7 #[.string na, .string nb, v] w fun e w' => e = .returned (.bool true) ∧ Below w.heap.size w w' := by
  obtain ⟨x, hx⟩ : ∃ x, winB na nb = x := ⟨_, rfl⟩
  have P1 := Lib.hid (fun u => by have := wins na nb u ha hb; rwa [hx] at this)
  have P2 := Lib.hid (fun u => by have := wins nb na u hb ha; rwa [← hsame, hx] at this)
  have hxx : (x == x) = true := by simp
  have K1 := Lib.hid (rfl : w = w)
  clear hx hsame ha hb
  go_enter Try.func7, Try.ntmps7
  go_wp2_with (first
    | (go_at_call 10; have _t := K1; clear _t; go_must (refine (answers _).mono ?_; clear K1; rintro e w1 ⟨rfl, hb1⟩))
    | (go_at_call 12; ((with_reducible refine (P1.out _).mono ?_); rintro e w2 ⟨rfl, hb2⟩); have hu2 := hb1.trans (hb2.mono hb1.size); clear P1)
    | (go_at_call 12; ((with_reducible refine (P2.out _).mono ?_); rintro e w3 ⟨rfl, hb3⟩); have hu3 := hu2.trans (hb3.mono hu2.size); clear P2)
    | (go_at_call 10; go_must (refine (answers _).mono ?_; rintro e w4 ⟨rfl, hb4⟩; have hu4 := hu3.trans (hb4.mono hu3.size))))
  go_ret
  exact ⟨rfl, hu4⟩
section
variable {P : Program} {w : World} {ops : Array Oper} {rest : List Oper} {o : Oper} {a : Act} {Q' : Exit → Act → World → Prop}
theorem wpl_sliceR (hgd : o.guard = none) (t : TypeId) (x : Operand) (lo hi mx : Option Operand) (ho : o.op = .slice t x lo hi mx) (v r : Value) (vl vh vm : Option Value) (hx : a.eval x = v) (hl : lo.map a.eval = vl) (hh : hi.map a.eval = vh) (hm : mx.map a.eval = vm)
    (hrun : (Instr.sliceAt t v vl vh vm).run P w = .ok r w) (K : wpList P ops Q' rest (a.put o.dst r) w) : wpList P ops Q' (o :: rest) a w := by
  refine wpList_plain hgd fun K' hK => ?_
  unfold Oper.wp execOp
  simp only [ho, hx, hl, hh, hm, hrun, Sem.run_bind, Sem.run_pure, Result.andThen_ok]
  exact hK _ _ K
end
set_option maxRecDepth 100000 in
set_option maxHeartbeats 12800000 in
theorem elects (na nb : ByteArray) (p : Option Addr) (l c : Nat) (os : List Bool) (w : World) (ha : na.size ≤ 9223372036854775807) (hb : nb.size ≤ 9223372036854775807) (hO : ReadsB w p l c os) (hdiff : winB na nb ≠ winB nb na) :
    Calls Try.prog 7 #[.string na, .string nb, .slice p l c] w fun e w' => e = .returned (.bool true) ∧ Below w.heap.size w w' := by
  obtain ⟨w0, hw0⟩ : ∃ w0, winB na nb = w0 := ⟨_, rfl⟩
  have hw1 : winB nb na = !w0 := by rw [hw0] at hdiff; cases h : winB nb na <;> cases w0 <;> simp_all
  have P1 := Lib.hid (fun u => by have := wins na nb u ha hb; rwa [hw0] at this)
  have P2 := Lib.hid (fun u => by have := wins nb na u hb ha; rwa [hw1] at this)
  have HW0 := Lib.hid (show winB na nb = winOf w0 0 from hw0)
  have HW1 := Lib.hid (show winB nb na = winOf w0 1 from hw1)
  have HN := Lib.hid (And.intro ha hb)
  have HO := Lib.hid hO
  have hll : l ≤ 9223372036854775807 := by have := hO.le; unfold maxLen at this; omega
  have hxx : (w0 == !w0) = false := by cases w0 <;> rfl
  have HE := Lib.hid (errs4 w0 (by cases w0 <;> simp))
  have HG4 := Lib.hid (good4 w0 (by cases w0 <;> simp))
  have K1 := Lib.hid (rfl : w = w)
  have K2 := K1
  have K3 := K1
  clear hw0 hw1 hdiff ha hb hO
  go_enter Try.func7, Try.ntmps7
  go_upto_region 6 with (first
    | (go_at_call 10; go_must (refine (answers _).mono ?_; rintro e w1 ⟨rfl, hb1⟩))
    | (go_at_call 12; ((with_reducible refine (P1.out _).mono ?_); rintro e w2 ⟨rfl, hb2⟩); have hu2 := hb1.trans (hb2.mono hb1.size); clear P1 hb1 hb2)
    | (go_at_call 12; ((with_reducible refine (P2.out _).mono ?_); rintro e w3 ⟨rfl, hb3⟩); have hu3 := hu2.trans (hb3.mono hu2.size); clear hu2 hb3)
    | ((with_reducible refine wpl_allocAt rfl 32 rfl zero32 (by kernel_rfl) ?_); go_must (intro w4 hat4 hb4 hs4; clear hs4))
    | ((with_reducible refine wpl_storeR rfl 32 (.tmp 7) (.tmp 34) rfl rfl w3.heap.size 32 zero32 #[.string na, .string nb] ?_ ?_ hat4 (by kernel_rfl) ?_ ?_ ?_); rfl; rfl; rfl; (simp [Value.oneCell']); go_must (intro w5 hat5 hg5; have hb5 := below_grown hb4 hg5 hb4.size (Nat.le_refl _); have hu5 := hu3.trans (hb5.mono hu3.size); have HS5 := Lib.hid hu3.size; clear hat4 hb4 hg5 hu3 hb5))
    | ((with_reducible refine wpl_allocAt rfl 33 rfl #[.int .i64 0, .int .i64 0] (by kernel_rfl) ?_); go_must (intro w6 hat6 hb6 hs6; clear hs6))
    | ((with_reducible refine wpl_storeR rfl 33 (.tmp 8) (.tmp 35) rfl rfl w5.heap.size 33 #[.int .i64 0, .int .i64 0] #[.int .i64 0, .int .i64 0] ?_ ?_ hat6 (by kernel_rfl) ?_ ?_ ?_); rfl; rfl; rfl; (simp [Value.oneCell']); go_must (intro w7 hat7 hg7; have hb7 := below_grown hb6 hg7 hb6.size (Nat.le_refl _); have hu7 := hu5.trans (hb7.mono hu5.size); have hat57 := hat5.ext hb7; have HS7 := Lib.hid hu5.size; clear hat6 hb6 hg7 hu5 hb7 hat5))
    | (have _t := hat7; clear _t; (with_reducible refine wpl_allocAt rfl 34 rfl #[.slice none 0 0, .slice none 0 0] (by kernel_rfl) ?_); go_must (intro w8 hat8 hb8 hs8; have hat78 := hat7.ext hb8; have hat58 := hat57.ext hb8; have hu8 := hu7.trans (hb8.mono hu7.size); have HS8 := Lib.hid hu7.size; clear hs8 hat7 hat57 hu7 hb8))
    | ((with_reducible refine wpl_allocAt rfl 34 rfl #[.slice none 0 0, .slice none 0 0] (by kernel_rfl) ?_); go_must (intro w9 hat9 hb9 hs9; have HP := Lib.hid (show PW w.heap.size w9 w5.heap.size w3.heap.size w8.heap.size w7.heap.size na nb startQ (fun _ => .slice none 0 0) from ⟨hat78.ext hb9, hat58.ext hb9, hat8.ext hb9, hat9, fun j hj => (by match j, hj with | 0, _ => exact OwnQ.nil _ _ | 1, _ => exact OwnQ.nil _ _ | 2, _ => exact OwnQ.nil _ _ | 3, _ => exact OwnQ.nil _ _), fun _ _ _ _ _ _ h => (by cases h), (fun e => (by have := hat8.lt; omega)), ⟨HS7.out, HS5.out, hu8.size, HS8.out⟩, Nat.le_trans hu8.size hb9.size⟩); have HB := Lib.hid (hu8.trans (hb9.mono hu8.size)); clear hs9 hat8 hat9 hb9 hat78 hat58 hu8)))
  obtain ⟨gn, hgn⟩ : ∃ gn, w3.heap.size = gn := ⟨_, rfl⟩
  obtain ⟨gs, hgs⟩ : ∃ gs, w5.heap.size = gs := ⟨_, rfl⟩
  obtain ⟨gm, hgm⟩ : ∃ gm, w7.heap.size = gm := ⟨_, rfl⟩
  obtain ⟨gt, hgt⟩ : ∃ gt, w8.heap.size = gt := ⟨_, rfl⟩
  rw [hgn, hgs, hgm, hgt] at HP
  rw [hgn, hgs, hgm, hgt]
  clear hgn hgs hgm hgt
  go_upto_region 9 with (first
    | (go_at_call 14; have _t := K1; clear _t; go_must (refine (side0 HP.out w0 HW0.out HN.out.1 HN.out.2 1 HE.out.1 HE.out.2.2.2.2.1).mono ?_; clear K1; rintro e u1 ⟨rfl, hp1, hb1⟩; have HP1 := Lib.hid (And.intro hp1 (HB.out.trans hb1)); clear hp1 hb1))
    | (go_at_call 14; have _t := K2; clear _t; go_must (obtain ⟨v1, hp1⟩ := HP1.out.1; refine (side1 hp1 w0 HW1.out HN.out.1 HN.out.2 1 HE.out.2.1 HE.out.2.2.2.2.2.1).mono ?_; clear K2; rintro e u2 ⟨rfl, hp2, hb2⟩; have HP2 := Lib.hid (And.intro hp2 (HP1.out.2.trans hb2)); clear hp1 hp2 hb2))
    | (go_at_call 14; have _t := K3; clear _t; go_must (obtain ⟨v2, hp2⟩ := HP2.out.1; refine (side0 hp2 w0 HW0.out HN.out.1 HN.out.2 3 HE.out.2.2.1 HE.out.2.2.2.2.2.2.1).mono ?_; clear K3; rintro e u3 ⟨rfl, hp3, hb3⟩; have HP3 := Lib.hid (And.intro hp3 (HP2.out.2.trans hb3)); clear hp2 hp3 hb3))
    | (go_at_call 14; go_must (obtain ⟨v3, hp3⟩ := HP3.out.1; refine (side1 hp3 w0 HW1.out HN.out.1 HN.out.2 3 HE.out.2.2.2.1 HE.out.2.2.2.2.2.2.2).mono ?_; rintro e u4 ⟨rfl, hp4, hb4⟩; have HP4 := Lib.hid (And.intro hp4 (HP3.out.2.trans hb4)); clear hp3 hp4 hb4)))
  clear HP HB HP1 HP2 HP3 HE hxx
  go_wp2_with fail
  go_loopw [12] (fun j wr => ∃ (i : Nat) (q : Q) (v : Nat → Value), j = .int .i64 i ∧ i ≤ 6 ∧ good w0 (6 - i) q = true ∧ PW w.heap.size wr gs gn gt gm na nb q v ∧ Below w.heap.size w wr) (fun j _ => 60 - (intOf j).toNat)
  case atStart =>
    obtain ⟨⟨v4, hp4⟩, hb4⟩ := HP4.out
    exact ⟨0, q4 w0, v4, rfl, by omega, HG4.out, hp4, hb4⟩
  case round =>
    obtain ⟨i, q, v, rfl, hi, hgd, hPW, hBW⟩ := hrel
    have HG := Lib.hid hgd
    have HBW := Lib.hid hBW
    have hi60 : (i : Int) < 60 := by omega
    clear hgd
    have hoc : (¬ i < l) ∨ (i < l ∧ ∃ b off, p = some ⟨b, off, none⟩ ∧ wr.cell? ⟨b, off + i, none⟩ = some (.bool false)) ∨ (i < l ∧ ∃ b off, p = some ⟨b, off, none⟩ ∧ wr.cell? ⟨b, off + i, none⟩ = some (.bool true)) := by
      by_cases h : i < l
      · right
        obtain ⟨x, hx⟩ : ∃ x, os[i]? = some x := ⟨_, List.getElem?_eq_getElem (by rw [HO.out.len]; exact h)⟩
        obtain ⟨b, off, h1, h2, h3⟩ := HO.out.at_ i x hx
        have h4 := (hBW.cell (p := ⟨b, off + i, none⟩) h2).trans h3
        cases x with
        | false => exact .inl ⟨h, b, off, h1, h4⟩
        | true => exact .inr ⟨h, b, off, h1, h4⟩
      · exact .inl h
    clear hBW
    rcases hoc with hno | ⟨hyes, b, off, rfl, hcb⟩ | ⟨hyes, b, off, rfl, hcb⟩
    next =>
      have hno' : decide ((i : Int) < l) = false := decide_eq_false (by omega)
      go_wp2_with fail
      go_loop [13, 14] (fun mv j => ∃ k : Nat, mv = .bool false ∧ j = .int .i64 k ∧ k ≤ 4 ∧ ∀ k', k' < k → q.x (jof false k') = []) (fun _ j => 4 - (intOf j).toNat)
      case atStart => exact ⟨0, rfl, rfl, by omega, fun k' h => absurd h (Nat.not_lt_zero _)⟩
      case round =>
        obtain ⟨k, rfl, rfl, hk, hem⟩ := hrel
        have HEM := Lib.hid hem
        clear hem
        have hkc : k = 0 ∨ k = 1 ∨ k = 2 ∨ k = 3 ∨ k = 4 := by omega
        clear hk
        rcases hkc with rfl | rfl | rfl | rfl | rfl
        · by_cases hx : q.x 0 = []
          · obtain ⟨pj, cj, evj⟩ := (hPW.own 0 (by decide)).form
            rw [hx] at evj
            simp only [List.length_nil] at evj
            have ct := hPW.mi.cell 0
            simp at ct
            rw [evj] at ct
            have HX := Lib.hid hx
            clear evj hx
            go_wp2_with fail
            go_round
            case rel => exact ⟨1, rfl, rfl, by omega, fun k' hk' => by
              by_cases h : k' = 0
              · subst h; exact HX.out
              · exact HEM.out k' (by omega)⟩
            case measure => simp [intOf]
          · obtain ⟨e, l2, hx2⟩ : ∃ e l2, q.x 0 = e :: l2 := by
              cases h : q.x 0 with
              | nil => exact absurd h hx
              | cons e l2 => exact ⟨e, l2, rfl⟩
            obtain ⟨m, hm, herr, hgood⟩ := good_move HG.out 0 (by decide) e l2 hx2
            have hown := hPW.own 0 (by decide)
            rw [hx2] at hown
            obtain ⟨gq, oq, cq, evq, hcq, hgq, hlq, vq, hrun, hoq, hbq, h1q⟩ := hown.first
            have hatT := hPW.mi
            have ct := hatT.cell 0
            simp at ct
            rw [evq] at ct
            obtain ⟨n2, hn2⟩ : ∃ n2, l2.length + 1 = n2 := ⟨_, rfl⟩
            have hn0 : 0 < n2 := by omega
            have hn0' : 0 < (n2 : Int) := by omega
            have hn63 : n2 ≤ 100 := by have := shortQ_iff (good_short HG.out) 0; rw [hx2] at this; simp at this; omega
            rw [evq] at hrun
            rw [hn2] at hrun ct evq
            have HRUN := Lib.hid hrun
            have HQ2 := Lib.hid (And.intro hoq (And.intro hbq (And.intro evq (And.intro hm (And.intro herr hgood)))))
            have H1Q := Lib.hid h1q
            have HPW := Lib.hid hPW
            have HSH := Lib.hid (show shortQ (q.setX 0 l2) = true by
              have h := good_short HG.out
              have hl := shortQ_iff h 0
              rw [hx2] at hl
              simp at hl
              unfold shortQ at h ⊢
              simp only [Bool.and_eq_true, decide_eq_true_eq] at h ⊢
              obtain ⟨⟨⟨a1, a2⟩, a3⟩, a4⟩ := h
              simp [Q.setX, a1, a2, a3, a4]
              omega)
            clear hx hx2 hm herr hgood hown hrun hoq hbq h1q evq hn2 hPW hlq
            go_wp2_with (first
              | ((with_reducible refine wpl_sliceR rfl 22 _ _ _ _ rfl (.slice (some ⟨gq, oq, none⟩) n2 cq) vq (some (.int .i64 1)) none none ?_ ?_ ?_ ?_ (HRUN.out _) ?_); rfl; rfl; rfl; rfl)
              | ((with_reducible refine wpl_storeC rfl 22 (.tmp 97) (.tmp 96) rfl rfl gm 0 34 (#[v 0, v 1] : Array Value) ((#[v 0, v 1] : Array Value).set! 0 vq) vq ?_ ?_ hatT ?_ (by kernel_rfl) H1Q.out rfl ?_); rfl; rfl; (show (0 : Nat) < 2; decide); go_must (intro u3 hat3 hg3; have HP3 := Lib.hid (HPW.out.setX 0 (by decide) rfl l2 vq HQ2.out.1 ⟨rfl, rfl, rfl, Nat.le_refl _, fun _ _ _ => rfl⟩ (.inl HQ2.out.2.1) hat3 hg3); have HB3 := Lib.hid (below_grown HBW.out hg3 HPW.out.size HPW.out.base.2.2.2); clear hat3 hg3 hatT ct hcq))
              | (go_at_call 14; go_must (refine (side0 HP3.out w0 HW0.out HN.out.1 HN.out.2 e HQ2.out.2.2.2.2.1 HSH.out).mono ?_; rintro e9 u4 ⟨rfl, hp4, hb4⟩; have HP4 := Lib.hid (And.intro hp4 hb4); clear hp4 hb4)))
            go_roundw
            case rel =>
              obtain ⟨⟨v4, hp4⟩, hb4⟩ := HP4.out
              have hm := HQ2.out.2.2.2.1
              refine ⟨i + 1, _, v4, by go_num, by omega, ?_, hp4, HB3.out.trans hb4⟩
              rw [show 6 - (i + 1) = m from by omega]
              exact HQ2.out.2.2.2.2.2
            case measure => simp [intOf]; omega
        · by_cases hx : q.x 1 = []
          · obtain ⟨pj, cj, evj⟩ := (hPW.own 1 (by decide)).form
            rw [hx] at evj
            simp only [List.length_nil] at evj
            have ct := hPW.mi.cell 1
            simp at ct
            rw [evj] at ct
            have HX := Lib.hid hx
            clear evj hx
            go_wp2_with fail
            go_round
            case rel => exact ⟨2, rfl, rfl, by omega, fun k' hk' => by
              by_cases h : k' = 1
              · subst h; exact HX.out
              · exact HEM.out k' (by omega)⟩
            case measure => simp [intOf]
          · obtain ⟨e, l2, hx2⟩ : ∃ e l2, q.x 1 = e :: l2 := by
              cases h : q.x 1 with
              | nil => exact absurd h hx
              | cons e l2 => exact ⟨e, l2, rfl⟩
            obtain ⟨m, hm, herr, hgood⟩ := good_move HG.out 1 (by decide) e l2 hx2
            have hown := hPW.own 1 (by decide)
            rw [hx2] at hown
            obtain ⟨gq, oq, cq, evq, hcq, hgq, hlq, vq, hrun, hoq, hbq, h1q⟩ := hown.first
            have hatT := hPW.mi
            have ct := hatT.cell 1
            simp at ct
            rw [evq] at ct
            obtain ⟨n2, hn2⟩ : ∃ n2, l2.length + 1 = n2 := ⟨_, rfl⟩
            have hn0 : 0 < n2 := by omega
            have hn0' : 0 < (n2 : Int) := by omega
            have hn63 : n2 ≤ 100 := by have := shortQ_iff (good_short HG.out) 1; rw [hx2] at this; simp at this; omega
            rw [evq] at hrun
            rw [hn2] at hrun ct evq
            have HRUN := Lib.hid hrun
            have HQ2 := Lib.hid (And.intro hoq (And.intro hbq (And.intro evq (And.intro hm (And.intro herr hgood)))))
            have H1Q := Lib.hid h1q
            have HPW := Lib.hid hPW
            have HSH := Lib.hid (show shortQ (q.setX 1 l2) = true by
              have h := good_short HG.out
              have hl := shortQ_iff h 1
              rw [hx2] at hl
              simp at hl
              unfold shortQ at h ⊢
              simp only [Bool.and_eq_true, decide_eq_true_eq] at h ⊢
              obtain ⟨⟨⟨a1, a2⟩, a3⟩, a4⟩ := h
              simp [Q.setX, a1, a2, a3, a4]
              omega)
            clear hx hx2 hm herr hgood hown hrun hoq hbq h1q evq hn2 hPW hlq
            go_wp2_with (first
              | ((with_reducible refine wpl_sliceR rfl 22 _ _ _ _ rfl (.slice (some ⟨gq, oq, none⟩) n2 cq) vq (some (.int .i64 1)) none none ?_ ?_ ?_ ?_ (HRUN.out _) ?_); rfl; rfl; rfl; rfl)
              | ((with_reducible refine wpl_storeC rfl 22 (.tmp 97) (.tmp 96) rfl rfl gm 1 34 (#[v 0, v 1] : Array Value) ((#[v 0, v 1] : Array Value).set! 1 vq) vq ?_ ?_ hatT ?_ (by kernel_rfl) H1Q.out rfl ?_); rfl; rfl; (show (1 : Nat) < 2; decide); go_must (intro u3 hat3 hg3; have HP3 := Lib.hid (HPW.out.setX 1 (by decide) rfl l2 vq HQ2.out.1 ⟨rfl, rfl, rfl, Nat.le_refl _, fun _ _ _ => rfl⟩ (.inl HQ2.out.2.1) hat3 hg3); have HB3 := Lib.hid (below_grown HBW.out hg3 HPW.out.size HPW.out.base.2.2.2); clear hat3 hg3 hatT ct hcq))
              | (go_at_call 14; go_must (refine (side1 HP3.out w0 HW1.out HN.out.1 HN.out.2 e HQ2.out.2.2.2.2.1 HSH.out).mono ?_; rintro e9 u4 ⟨rfl, hp4, hb4⟩; have HP4 := Lib.hid (And.intro hp4 hb4); clear hp4 hb4)))
            go_roundw
            case rel =>
              obtain ⟨⟨v4, hp4⟩, hb4⟩ := HP4.out
              have hm := HQ2.out.2.2.2.1
              refine ⟨i + 1, _, v4, by go_num, by omega, ?_, hp4, HB3.out.trans hb4⟩
              rw [show 6 - (i + 1) = m from by omega]
              exact HQ2.out.2.2.2.2.2
            case measure => simp [intOf]; omega
        · by_cases hx : q.x 2 = []
          · obtain ⟨pj, cj, evj⟩ := (hPW.own 2 (by decide)).form
            rw [hx] at evj
            simp only [List.length_nil] at evj
            have ct := hPW.th.cell 0
            simp at ct
            rw [evj] at ct
            have HX := Lib.hid hx
            clear evj hx
            go_wp2_with fail
            go_round
            case rel => exact ⟨3, rfl, rfl, by omega, fun k' hk' => by
              by_cases h : k' = 2
              · subst h; exact HX.out
              · exact HEM.out k' (by omega)⟩
            case measure => simp [intOf]
          · obtain ⟨e, l2, hx2⟩ : ∃ e l2, q.x 2 = e :: l2 := by
              cases h : q.x 2 with
              | nil => exact absurd h hx
              | cons e l2 => exact ⟨e, l2, rfl⟩
            obtain ⟨m, hm, herr, hgood⟩ := good_move HG.out 2 (by decide) e l2 hx2
            have hown := hPW.own 2 (by decide)
            rw [hx2] at hown
            obtain ⟨gq, oq, cq, evq, hcq, hgq, hlq, vq, hrun, hoq, hbq, h1q⟩ := hown.first
            have hatT := hPW.th
            have ct := hatT.cell 0
            simp at ct
            rw [evq] at ct
            obtain ⟨n2, hn2⟩ : ∃ n2, l2.length + 1 = n2 := ⟨_, rfl⟩
            have hn0 : 0 < n2 := by omega
            have hn0' : 0 < (n2 : Int) := by omega
            have hn63 : n2 ≤ 100 := by have := shortQ_iff (good_short HG.out) 2; rw [hx2] at this; simp at this; omega
            rw [evq] at hrun
            rw [hn2] at hrun ct evq
            have HRUN := Lib.hid hrun
            have HQ2 := Lib.hid (And.intro hoq (And.intro hbq (And.intro evq (And.intro hm (And.intro herr hgood)))))
            have H1Q := Lib.hid h1q
            have HPW := Lib.hid hPW
            have HSH := Lib.hid (show shortQ (q.setX 2 l2) = true by
              have h := good_short HG.out
              have hl := shortQ_iff h 2
              rw [hx2] at hl
              simp at hl
              unfold shortQ at h ⊢
              simp only [Bool.and_eq_true, decide_eq_true_eq] at h ⊢
              obtain ⟨⟨⟨a1, a2⟩, a3⟩, a4⟩ := h
              simp [Q.setX, a1, a2, a3, a4]
              omega)
            clear hx hx2 hm herr hgood hown hrun hoq hbq h1q evq hn2 hPW hlq
            go_wp2_with (first
              | ((with_reducible refine wpl_sliceR rfl 22 _ _ _ _ rfl (.slice (some ⟨gq, oq, none⟩) n2 cq) vq (some (.int .i64 1)) none none ?_ ?_ ?_ ?_ (HRUN.out _) ?_); rfl; rfl; rfl; rfl)
              | ((with_reducible refine wpl_storeC rfl 22 (.tmp 122) (.tmp 121) rfl rfl gt 0 34 (#[v 2, v 3] : Array Value) ((#[v 2, v 3] : Array Value).set! 0 vq) vq ?_ ?_ hatT ?_ (by kernel_rfl) H1Q.out rfl ?_); rfl; rfl; (show (0 : Nat) < 2; decide); go_must (intro u3 hat3 hg3; have HP3 := Lib.hid (HPW.out.setX 2 (by decide) rfl l2 vq HQ2.out.1 ⟨rfl, rfl, rfl, Nat.le_refl _, fun _ _ _ => rfl⟩ (.inl HQ2.out.2.1) hat3 hg3); have HB3 := Lib.hid (below_grown HBW.out hg3 HPW.out.size HPW.out.base.2.2.1); clear hat3 hg3 hatT ct hcq))
              | (go_at_call 14; go_must (refine (side0 HP3.out w0 HW0.out HN.out.1 HN.out.2 e HQ2.out.2.2.2.2.1 HSH.out).mono ?_; rintro e9 u4 ⟨rfl, hp4, hb4⟩; have HP4 := Lib.hid (And.intro hp4 hb4); clear hp4 hb4)))
            go_roundw
            case rel =>
              obtain ⟨⟨v4, hp4⟩, hb4⟩ := HP4.out
              have hm := HQ2.out.2.2.2.1
              refine ⟨i + 1, _, v4, by go_num, by omega, ?_, hp4, HB3.out.trans hb4⟩
              rw [show 6 - (i + 1) = m from by omega]
              exact HQ2.out.2.2.2.2.2
            case measure => simp [intOf]; omega
        · by_cases hx : q.x 3 = []
          · obtain ⟨pj, cj, evj⟩ := (hPW.own 3 (by decide)).form
            rw [hx] at evj
            simp only [List.length_nil] at evj
            have ct := hPW.th.cell 1
            simp at ct
            rw [evj] at ct
            have HX := Lib.hid hx
            clear evj hx
            go_wp2_with fail
            go_round
            case rel => exact ⟨4, rfl, rfl, by omega, fun k' hk' => by
              by_cases h : k' = 3
              · subst h; exact HX.out
              · exact HEM.out k' (by omega)⟩
            case measure => simp [intOf]
          · obtain ⟨e, l2, hx2⟩ : ∃ e l2, q.x 3 = e :: l2 := by
              cases h : q.x 3 with
              | nil => exact absurd h hx
              | cons e l2 => exact ⟨e, l2, rfl⟩
            obtain ⟨m, hm, herr, hgood⟩ := good_move HG.out 3 (by decide) e l2 hx2
            have hown := hPW.own 3 (by decide)
            rw [hx2] at hown
            obtain ⟨gq, oq, cq, evq, hcq, hgq, hlq, vq, hrun, hoq, hbq, h1q⟩ := hown.first
            have hatT := hPW.th
            have ct := hatT.cell 1
            simp at ct
            rw [evq] at ct
            obtain ⟨n2, hn2⟩ : ∃ n2, l2.length + 1 = n2 := ⟨_, rfl⟩
            have hn0 : 0 < n2 := by omega
            have hn0' : 0 < (n2 : Int) := by omega
            have hn63 : n2 ≤ 100 := by have := shortQ_iff (good_short HG.out) 3; rw [hx2] at this; simp at this; omega
            rw [evq] at hrun
            rw [hn2] at hrun ct evq
            have HRUN := Lib.hid hrun
            have HQ2 := Lib.hid (And.intro hoq (And.intro hbq (And.intro evq (And.intro hm (And.intro herr hgood)))))
            have H1Q := Lib.hid h1q
            have HPW := Lib.hid hPW
            have HSH := Lib.hid (show shortQ (q.setX 3 l2) = true by
              have h := good_short HG.out
              have hl := shortQ_iff h 3
              rw [hx2] at hl
              simp at hl
              unfold shortQ at h ⊢
              simp only [Bool.and_eq_true, decide_eq_true_eq] at h ⊢
              obtain ⟨⟨⟨a1, a2⟩, a3⟩, a4⟩ := h
              simp [Q.setX, a1, a2, a3, a4]
              omega)
            clear hx hx2 hm herr hgood hown hrun hoq hbq h1q evq hn2 hPW hlq
            go_wp2_with (first
              | ((with_reducible refine wpl_sliceR rfl 22 _ _ _ _ rfl (.slice (some ⟨gq, oq, none⟩) n2 cq) vq (some (.int .i64 1)) none none ?_ ?_ ?_ ?_ (HRUN.out _) ?_); rfl; rfl; rfl; rfl)
              | ((with_reducible refine wpl_storeC rfl 22 (.tmp 122) (.tmp 121) rfl rfl gt 1 34 (#[v 2, v 3] : Array Value) ((#[v 2, v 3] : Array Value).set! 1 vq) vq ?_ ?_ hatT ?_ (by kernel_rfl) H1Q.out rfl ?_); rfl; rfl; (show (1 : Nat) < 2; decide); go_must (intro u3 hat3 hg3; have HP3 := Lib.hid (HPW.out.setX 3 (by decide) rfl l2 vq HQ2.out.1 ⟨rfl, rfl, rfl, Nat.le_refl _, fun _ _ _ => rfl⟩ (.inl HQ2.out.2.1) hat3 hg3); have HB3 := Lib.hid (below_grown HBW.out hg3 HPW.out.size HPW.out.base.2.2.1); clear hat3 hg3 hatT ct hcq))
              | (go_at_call 14; go_must (refine (side1 HP3.out w0 HW1.out HN.out.1 HN.out.2 e HQ2.out.2.2.2.2.1 HSH.out).mono ?_; rintro e9 u4 ⟨rfl, hp4, hb4⟩; have HP4 := Lib.hid (And.intro hp4 hb4); clear hp4 hb4)))
            go_roundw
            case rel =>
              obtain ⟨⟨v4, hp4⟩, hb4⟩ := HP4.out
              have hm := HQ2.out.2.2.2.1
              refine ⟨i + 1, _, v4, by go_num, by omega, ?_, hp4, HB3.out.trans hb4⟩
              rw [show 6 - (i + 1) = m from by omega]
              exact HQ2.out.2.2.2.2.2
            case measure => simp [intOf]; omega
        · have HF := Lib.hid (good_end HG.out (fun j hj => by
            have h0 := HEM.out 0 (by omega)
            have h1 := HEM.out 1 (by omega)
            have h2 := HEM.out 2 (by omega)
            have h3 := HEM.out 3 (by omega)
            simp [jof] at h0 h1 h2 h3
            match j, hj with
            | 0, _ => assumption
            | 1, _ => assumption
            | 2, _ => assumption
            | 3, _ => assumption))
          have cs0 := hPW.st.cell 0
          have cs1 := hPW.st.cell 1
          simp at cs0 cs1
          have HPW := Lib.hid hPW
          clear hPW
          cases w0 with
          | true =>
            obtain ⟨f1, f2⟩ : q.s0 = 6 ∧ q.s1 = 5 := by have := HF.out; simpa [finalQ] using this
            rw [f1] at cs0
            rw [f2] at cs1
            clear f1 f2
            go_wp2_with (go_at_call 12; go_must (refine (P2.out wr).mono ?_; rintro e w9 ⟨rfl, hb9⟩; have hz9 := (hb9.cell (p := ⟨gs, 0, none⟩) HPW.out.st.lt).trans cs0; have hz8 := (hb9.cell (p := ⟨gs, 1, none⟩) HPW.out.st.lt).trans cs1; have HB9 := Lib.hid (HBW.out.trans (hb9.mono HPW.out.size)); clear hb9 cs0 cs1))
            go_ret
            exact ⟨rfl, HB9.out⟩
          | false =>
            obtain ⟨f1, f2⟩ : q.s1 = 6 ∧ q.s0 = 5 := by have := HF.out; simpa [finalQ] using this
            rw [f2] at cs0
            rw [f1] at cs1
            clear f1 f2
            go_wp2_with (go_at_call 12; go_must (refine (P2.out wr).mono ?_; rintro e w9 ⟨rfl, hb9⟩; have hz9 := (hb9.cell (p := ⟨gs, 0, none⟩) HPW.out.st.lt).trans cs0; have hz8 := (hb9.cell (p := ⟨gs, 1, none⟩) HPW.out.st.lt).trans cs1; have HB9 := Lib.hid (HBW.out.trans (hb9.mono HPW.out.size)); clear hb9 cs0 cs1))
            go_ret
            exact ⟨rfl, HB9.out⟩
    next =>
      have hyes' : (i : Int) < l := by omega
      go_wp2_with fail
      go_loop [13, 14] (fun mv j => ∃ k : Nat, mv = .bool false ∧ j = .int .i64 k ∧ k ≤ 4 ∧ ∀ k', k' < k → q.x (jof false k') = []) (fun _ j => 4 - (intOf j).toNat)
      case atStart => exact ⟨0, rfl, rfl, by omega, fun k' h => absurd h (Nat.not_lt_zero _)⟩
      case round =>
        obtain ⟨k, rfl, rfl, hk, hem⟩ := hrel
        have HEM := Lib.hid hem
        clear hem
        have hkc : k = 0 ∨ k = 1 ∨ k = 2 ∨ k = 3 ∨ k = 4 := by omega
        clear hk
        rcases hkc with rfl | rfl | rfl | rfl | rfl
        · by_cases hx : q.x 0 = []
          · obtain ⟨pj, cj, evj⟩ := (hPW.own 0 (by decide)).form
            rw [hx] at evj
            simp only [List.length_nil] at evj
            have ct := hPW.mi.cell 0
            simp at ct
            rw [evj] at ct
            have HX := Lib.hid hx
            clear evj hx
            go_wp2_with fail
            go_round
            case rel => exact ⟨1, rfl, rfl, by omega, fun k' hk' => by
              by_cases h : k' = 0
              · subst h; exact HX.out
              · exact HEM.out k' (by omega)⟩
            case measure => simp [intOf]
          · obtain ⟨e, l2, hx2⟩ : ∃ e l2, q.x 0 = e :: l2 := by
              cases h : q.x 0 with
              | nil => exact absurd h hx
              | cons e l2 => exact ⟨e, l2, rfl⟩
            obtain ⟨m, hm, herr, hgood⟩ := good_move HG.out 0 (by decide) e l2 hx2
            have hown := hPW.own 0 (by decide)
            rw [hx2] at hown
            obtain ⟨gq, oq, cq, evq, hcq, hgq, hlq, vq, hrun, hoq, hbq, h1q⟩ := hown.first
            have hatT := hPW.mi
            have ct := hatT.cell 0
            simp at ct
            rw [evq] at ct
            obtain ⟨n2, hn2⟩ : ∃ n2, l2.length + 1 = n2 := ⟨_, rfl⟩
            have hn0 : 0 < n2 := by omega
            have hn0' : 0 < (n2 : Int) := by omega
            have hn63 : n2 ≤ 100 := by have := shortQ_iff (good_short HG.out) 0; rw [hx2] at this; simp at this; omega
            rw [evq] at hrun
            rw [hn2] at hrun ct evq
            have HRUN := Lib.hid hrun
            have HQ2 := Lib.hid (And.intro hoq (And.intro hbq (And.intro evq (And.intro hm (And.intro herr hgood)))))
            have H1Q := Lib.hid h1q
            have HPW := Lib.hid hPW
            have HSH := Lib.hid (show shortQ (q.setX 0 l2) = true by
              have h := good_short HG.out
              have hl := shortQ_iff h 0
              rw [hx2] at hl
              simp at hl
              unfold shortQ at h ⊢
              simp only [Bool.and_eq_true, decide_eq_true_eq] at h ⊢
              obtain ⟨⟨⟨a1, a2⟩, a3⟩, a4⟩ := h
              simp [Q.setX, a1, a2, a3, a4]
              omega)
            clear hx hx2 hm herr hgood hown hrun hoq hbq h1q evq hn2 hPW hlq
            go_wp2_with (first
              | ((with_reducible refine wpl_sliceR rfl 22 _ _ _ _ rfl (.slice (some ⟨gq, oq, none⟩) n2 cq) vq (some (.int .i64 1)) none none ?_ ?_ ?_ ?_ (HRUN.out _) ?_); rfl; rfl; rfl; rfl)
              | ((with_reducible refine wpl_storeC rfl 22 (.tmp 97) (.tmp 96) rfl rfl gm 0 34 (#[v 0, v 1] : Array Value) ((#[v 0, v 1] : Array Value).set! 0 vq) vq ?_ ?_ hatT ?_ (by kernel_rfl) H1Q.out rfl ?_); rfl; rfl; (show (0 : Nat) < 2; decide); go_must (intro u3 hat3 hg3; have HP3 := Lib.hid (HPW.out.setX 0 (by decide) rfl l2 vq HQ2.out.1 ⟨rfl, rfl, rfl, Nat.le_refl _, fun _ _ _ => rfl⟩ (.inl HQ2.out.2.1) hat3 hg3); have HB3 := Lib.hid (below_grown HBW.out hg3 HPW.out.size HPW.out.base.2.2.2); clear hat3 hg3 hatT ct hcq))
              | (go_at_call 14; go_must (refine (side0 HP3.out w0 HW0.out HN.out.1 HN.out.2 e HQ2.out.2.2.2.2.1 HSH.out).mono ?_; rintro e9 u4 ⟨rfl, hp4, hb4⟩; have HP4 := Lib.hid (And.intro hp4 hb4); clear hp4 hb4)))
            go_roundw
            case rel =>
              obtain ⟨⟨v4, hp4⟩, hb4⟩ := HP4.out
              have hm := HQ2.out.2.2.2.1
              refine ⟨i + 1, _, v4, by go_num, by omega, ?_, hp4, HB3.out.trans hb4⟩
              rw [show 6 - (i + 1) = m from by omega]
              exact HQ2.out.2.2.2.2.2
            case measure => simp [intOf]; omega
        · by_cases hx : q.x 1 = []
          · obtain ⟨pj, cj, evj⟩ := (hPW.own 1 (by decide)).form
            rw [hx] at evj
            simp only [List.length_nil] at evj
            have ct := hPW.mi.cell 1
            simp at ct
            rw [evj] at ct
            have HX := Lib.hid hx
            clear evj hx
            go_wp2_with fail
            go_round
            case rel => exact ⟨2, rfl, rfl, by omega, fun k' hk' => by
              by_cases h : k' = 1
              · subst h; exact HX.out
              · exact HEM.out k' (by omega)⟩
            case measure => simp [intOf]
          · obtain ⟨e, l2, hx2⟩ : ∃ e l2, q.x 1 = e :: l2 := by
              cases h : q.x 1 with
              | nil => exact absurd h hx
              | cons e l2 => exact ⟨e, l2, rfl⟩
            obtain ⟨m, hm, herr, hgood⟩ := good_move HG.out 1 (by decide) e l2 hx2
            have hown := hPW.own 1 (by decide)
            rw [hx2] at hown
            obtain ⟨gq, oq, cq, evq, hcq, hgq, hlq, vq, hrun, hoq, hbq, h1q⟩ := hown.first
            have hatT := hPW.mi
            have ct := hatT.cell 1
            simp at ct
            rw [evq] at ct
            obtain ⟨n2, hn2⟩ : ∃ n2, l2.length + 1 = n2 := ⟨_, rfl⟩
            have hn0 : 0 < n2 := by omega
            have hn0' : 0 < (n2 : Int) := by omega
            have hn63 : n2 ≤ 100 := by have := shortQ_iff (good_short HG.out) 1; rw [hx2] at this; simp at this; omega
            rw [evq] at hrun
            rw [hn2] at hrun ct evq
            have HRUN := Lib.hid hrun
            have HQ2 := Lib.hid (And.intro hoq (And.intro hbq (And.intro evq (And.intro hm (And.intro herr hgood)))))
            have H1Q := Lib.hid h1q
            have HPW := Lib.hid hPW
            have HSH := Lib.hid (show shortQ (q.setX 1 l2) = true by
              have h := good_short HG.out
              have hl := shortQ_iff h 1
              rw [hx2] at hl
              simp at hl
              unfold shortQ at h ⊢
              simp only [Bool.and_eq_true, decide_eq_true_eq] at h ⊢
              obtain ⟨⟨⟨a1, a2⟩, a3⟩, a4⟩ := h
              simp [Q.setX, a1, a2, a3, a4]
              omega)
            clear hx hx2 hm herr hgood hown hrun hoq hbq h1q evq hn2 hPW hlq
            go_wp2_with (first
              | ((with_reducible refine wpl_sliceR rfl 22 _ _ _ _ rfl (.slice (some ⟨gq, oq, none⟩) n2 cq) vq (some (.int .i64 1)) none none ?_ ?_ ?_ ?_ (HRUN.out _) ?_); rfl; rfl; rfl; rfl)
              | ((with_reducible refine wpl_storeC rfl 22 (.tmp 97) (.tmp 96) rfl rfl gm 1 34 (#[v 0, v 1] : Array Value) ((#[v 0, v 1] : Array Value).set! 1 vq) vq ?_ ?_ hatT ?_ (by kernel_rfl) H1Q.out rfl ?_); rfl; rfl; (show (1 : Nat) < 2; decide); go_must (intro u3 hat3 hg3; have HP3 := Lib.hid (HPW.out.setX 1 (by decide) rfl l2 vq HQ2.out.1 ⟨rfl, rfl, rfl, Nat.le_refl _, fun _ _ _ => rfl⟩ (.inl HQ2.out.2.1) hat3 hg3); have HB3 := Lib.hid (below_grown HBW.out hg3 HPW.out.size HPW.out.base.2.2.2); clear hat3 hg3 hatT ct hcq))
              | (go_at_call 14; go_must (refine (side1 HP3.out w0 HW1.out HN.out.1 HN.out.2 e HQ2.out.2.2.2.2.1 HSH.out).mono ?_; rintro e9 u4 ⟨rfl, hp4, hb4⟩; have HP4 := Lib.hid (And.intro hp4 hb4); clear hp4 hb4)))
            go_roundw
            case rel =>
              obtain ⟨⟨v4, hp4⟩, hb4⟩ := HP4.out
              have hm := HQ2.out.2.2.2.1
              refine ⟨i + 1, _, v4, by go_num, by omega, ?_, hp4, HB3.out.trans hb4⟩
              rw [show 6 - (i + 1) = m from by omega]
              exact HQ2.out.2.2.2.2.2
            case measure => simp [intOf]; omega
        · by_cases hx : q.x 2 = []
          · obtain ⟨pj, cj, evj⟩ := (hPW.own 2 (by decide)).form
            rw [hx] at evj
            simp only [List.length_nil] at evj
            have ct := hPW.th.cell 0
            simp at ct
            rw [evj] at ct
            have HX := Lib.hid hx
            clear evj hx
            go_wp2_with fail
            go_round
            case rel => exact ⟨3, rfl, rfl, by omega, fun k' hk' => by
              by_cases h : k' = 2
              · subst h; exact HX.out
              · exact HEM.out k' (by omega)⟩
            case measure => simp [intOf]
          · obtain ⟨e, l2, hx2⟩ : ∃ e l2, q.x 2 = e :: l2 := by
              cases h : q.x 2 with
              | nil => exact absurd h hx
              | cons e l2 => exact ⟨e, l2, rfl⟩
            obtain ⟨m, hm, herr, hgood⟩ := good_move HG.out 2 (by decide) e l2 hx2
            have hown := hPW.own 2 (by decide)
            rw [hx2] at hown
            obtain ⟨gq, oq, cq, evq, hcq, hgq, hlq, vq, hrun, hoq, hbq, h1q⟩ := hown.first
            have hatT := hPW.th
            have ct := hatT.cell 0
            simp at ct
            rw [evq] at ct
            obtain ⟨n2, hn2⟩ : ∃ n2, l2.length + 1 = n2 := ⟨_, rfl⟩
            have hn0 : 0 < n2 := by omega
            have hn0' : 0 < (n2 : Int) := by omega
            have hn63 : n2 ≤ 100 := by have := shortQ_iff (good_short HG.out) 2; rw [hx2] at this; simp at this; omega
            rw [evq] at hrun
            rw [hn2] at hrun ct evq
            have HRUN := Lib.hid hrun
            have HQ2 := Lib.hid (And.intro hoq (And.intro hbq (And.intro evq (And.intro hm (And.intro herr hgood)))))
            have H1Q := Lib.hid h1q
            have HPW := Lib.hid hPW
            have HSH := Lib.hid (show shortQ (q.setX 2 l2) = true by
              have h := good_short HG.out
              have hl := shortQ_iff h 2
              rw [hx2] at hl
              simp at hl
              unfold shortQ at h ⊢
              simp only [Bool.and_eq_true, decide_eq_true_eq] at h ⊢
              obtain ⟨⟨⟨a1, a2⟩, a3⟩, a4⟩ := h
              simp [Q.setX, a1, a2, a3, a4]
              omega)
            clear hx hx2 hm herr hgood hown hrun hoq hbq h1q evq hn2 hPW hlq
            go_wp2_with (first
              | ((with_reducible refine wpl_sliceR rfl 22 _ _ _ _ rfl (.slice (some ⟨gq, oq, none⟩) n2 cq) vq (some (.int .i64 1)) none none ?_ ?_ ?_ ?_ (HRUN.out _) ?_); rfl; rfl; rfl; rfl)
              | ((with_reducible refine wpl_storeC rfl 22 (.tmp 122) (.tmp 121) rfl rfl gt 0 34 (#[v 2, v 3] : Array Value) ((#[v 2, v 3] : Array Value).set! 0 vq) vq ?_ ?_ hatT ?_ (by kernel_rfl) H1Q.out rfl ?_); rfl; rfl; (show (0 : Nat) < 2; decide); go_must (intro u3 hat3 hg3; have HP3 := Lib.hid (HPW.out.setX 2 (by decide) rfl l2 vq HQ2.out.1 ⟨rfl, rfl, rfl, Nat.le_refl _, fun _ _ _ => rfl⟩ (.inl HQ2.out.2.1) hat3 hg3); have HB3 := Lib.hid (below_grown HBW.out hg3 HPW.out.size HPW.out.base.2.2.1); clear hat3 hg3 hatT ct hcq))
              | (go_at_call 14; go_must (refine (side0 HP3.out w0 HW0.out HN.out.1 HN.out.2 e HQ2.out.2.2.2.2.1 HSH.out).mono ?_; rintro e9 u4 ⟨rfl, hp4, hb4⟩; have HP4 := Lib.hid (And.intro hp4 hb4); clear hp4 hb4)))
            go_roundw
            case rel =>
              obtain ⟨⟨v4, hp4⟩, hb4⟩ := HP4.out
              have hm := HQ2.out.2.2.2.1
              refine ⟨i + 1, _, v4, by go_num, by omega, ?_, hp4, HB3.out.trans hb4⟩
              rw [show 6 - (i + 1) = m from by omega]
              exact HQ2.out.2.2.2.2.2
            case measure => simp [intOf]; omega
        · by_cases hx : q.x 3 = []
          · obtain ⟨pj, cj, evj⟩ := (hPW.own 3 (by decide)).form
            rw [hx] at evj
            simp only [List.length_nil] at evj
            have ct := hPW.th.cell 1
            simp at ct
            rw [evj] at ct
            have HX := Lib.hid hx
            clear evj hx
            go_wp2_with fail
            go_round
            case rel => exact ⟨4, rfl, rfl, by omega, fun k' hk' => by
              by_cases h : k' = 3
              · subst h; exact HX.out
              · exact HEM.out k' (by omega)⟩
            case measure => simp [intOf]
          · obtain ⟨e, l2, hx2⟩ : ∃ e l2, q.x 3 = e :: l2 := by
              cases h : q.x 3 with
              | nil => exact absurd h hx
              | cons e l2 => exact ⟨e, l2, rfl⟩
            obtain ⟨m, hm, herr, hgood⟩ := good_move HG.out 3 (by decide) e l2 hx2
            have hown := hPW.own 3 (by decide)
            rw [hx2] at hown
            obtain ⟨gq, oq, cq, evq, hcq, hgq, hlq, vq, hrun, hoq, hbq, h1q⟩ := hown.first
            have hatT := hPW.th
            have ct := hatT.cell 1
            simp at ct
            rw [evq] at ct
            obtain ⟨n2, hn2⟩ : ∃ n2, l2.length + 1 = n2 := ⟨_, rfl⟩
            have hn0 : 0 < n2 := by omega
            have hn0' : 0 < (n2 : Int) := by omega
            have hn63 : n2 ≤ 100 := by have := shortQ_iff (good_short HG.out) 3; rw [hx2] at this; simp at this; omega
            rw [evq] at hrun
            rw [hn2] at hrun ct evq
            have HRUN := Lib.hid hrun
            have HQ2 := Lib.hid (And.intro hoq (And.intro hbq (And.intro evq (And.intro hm (And.intro herr hgood)))))
            have H1Q := Lib.hid h1q
            have HPW := Lib.hid hPW
            have HSH := Lib.hid (show shortQ (q.setX 3 l2) = true by
              have h := good_short HG.out
              have hl := shortQ_iff h 3
              rw [hx2] at hl
              simp at hl
              unfold shortQ at h ⊢
              simp only [Bool.and_eq_true, decide_eq_true_eq] at h ⊢
              obtain ⟨⟨⟨a1, a2⟩, a3⟩, a4⟩ := h
              simp [Q.setX, a1, a2, a3, a4]
              omega)
            clear hx hx2 hm herr hgood hown hrun hoq hbq h1q evq hn2 hPW hlq
            go_wp2_with (first
              | ((with_reducible refine wpl_sliceR rfl 22 _ _ _ _ rfl (.slice (some ⟨gq, oq, none⟩) n2 cq) vq (some (.int .i64 1)) none none ?_ ?_ ?_ ?_ (HRUN.out _) ?_); rfl; rfl; rfl; rfl)
              | ((with_reducible refine wpl_storeC rfl 22 (.tmp 122) (.tmp 121) rfl rfl gt 1 34 (#[v 2, v 3] : Array Value) ((#[v 2, v 3] : Array Value).set! 1 vq) vq ?_ ?_ hatT ?_ (by kernel_rfl) H1Q.out rfl ?_); rfl; rfl; (show (1 : Nat) < 2; decide); go_must (intro u3 hat3 hg3; have HP3 := Lib.hid (HPW.out.setX 3 (by decide) rfl l2 vq HQ2.out.1 ⟨rfl, rfl, rfl, Nat.le_refl _, fun _ _ _ => rfl⟩ (.inl HQ2.out.2.1) hat3 hg3); have HB3 := Lib.hid (below_grown HBW.out hg3 HPW.out.size HPW.out.base.2.2.1); clear hat3 hg3 hatT ct hcq))
              | (go_at_call 14; go_must (refine (side1 HP3.out w0 HW1.out HN.out.1 HN.out.2 e HQ2.out.2.2.2.2.1 HSH.out).mono ?_; rintro e9 u4 ⟨rfl, hp4, hb4⟩; have HP4 := Lib.hid (And.intro hp4 hb4); clear hp4 hb4)))
            go_roundw
            case rel =>
              obtain ⟨⟨v4, hp4⟩, hb4⟩ := HP4.out
              have hm := HQ2.out.2.2.2.1
              refine ⟨i + 1, _, v4, by go_num, by omega, ?_, hp4, HB3.out.trans hb4⟩
              rw [show 6 - (i + 1) = m from by omega]
              exact HQ2.out.2.2.2.2.2
            case measure => simp [intOf]; omega
        · have HF := Lib.hid (good_end HG.out (fun j hj => by
            have h0 := HEM.out 0 (by omega)
            have h1 := HEM.out 1 (by omega)
            have h2 := HEM.out 2 (by omega)
            have h3 := HEM.out 3 (by omega)
            simp [jof] at h0 h1 h2 h3
            match j, hj with
            | 0, _ => assumption
            | 1, _ => assumption
            | 2, _ => assumption
            | 3, _ => assumption))
          have cs0 := hPW.st.cell 0
          have cs1 := hPW.st.cell 1
          simp at cs0 cs1
          have HPW := Lib.hid hPW
          clear hPW
          cases w0 with
          | true =>
            obtain ⟨f1, f2⟩ : q.s0 = 6 ∧ q.s1 = 5 := by have := HF.out; simpa [finalQ] using this
            rw [f1] at cs0
            rw [f2] at cs1
            clear f1 f2
            go_wp2_with (go_at_call 12; go_must (refine (P2.out wr).mono ?_; rintro e w9 ⟨rfl, hb9⟩; have hz9 := (hb9.cell (p := ⟨gs, 0, none⟩) HPW.out.st.lt).trans cs0; have hz8 := (hb9.cell (p := ⟨gs, 1, none⟩) HPW.out.st.lt).trans cs1; have HB9 := Lib.hid (HBW.out.trans (hb9.mono HPW.out.size)); clear hb9 cs0 cs1))
            go_ret
            exact ⟨rfl, HB9.out⟩
          | false =>
            obtain ⟨f1, f2⟩ : q.s1 = 6 ∧ q.s0 = 5 := by have := HF.out; simpa [finalQ] using this
            rw [f2] at cs0
            rw [f1] at cs1
            clear f1 f2
            go_wp2_with (go_at_call 12; go_must (refine (P2.out wr).mono ?_; rintro e w9 ⟨rfl, hb9⟩; have hz9 := (hb9.cell (p := ⟨gs, 0, none⟩) HPW.out.st.lt).trans cs0; have hz8 := (hb9.cell (p := ⟨gs, 1, none⟩) HPW.out.st.lt).trans cs1; have HB9 := Lib.hid (HBW.out.trans (hb9.mono HPW.out.size)); clear hb9 cs0 cs1))
            go_ret
            exact ⟨rfl, HB9.out⟩
    next =>
      have hyes' : (i : Int) < l := by omega
      go_wp2_with fail
      go_loop [13, 14] (fun mv j => ∃ k : Nat, mv = .bool false ∧ j = .int .i64 k ∧ k ≤ 4 ∧ ∀ k', k' < k → q.x (jof true k') = []) (fun _ j => 4 - (intOf j).toNat)
      case atStart => exact ⟨0, rfl, rfl, by omega, fun k' h => absurd h (Nat.not_lt_zero _)⟩
      case round =>
        obtain ⟨k, rfl, rfl, hk, hem⟩ := hrel
        have HEM := Lib.hid hem
        clear hem
        have hkc : k = 0 ∨ k = 1 ∨ k = 2 ∨ k = 3 ∨ k = 4 := by omega
        clear hk
        rcases hkc with rfl | rfl | rfl | rfl | rfl
        · by_cases hx : q.x 3 = []
          · obtain ⟨pj, cj, evj⟩ := (hPW.own 3 (by decide)).form
            rw [hx] at evj
            simp only [List.length_nil] at evj
            have ct := hPW.th.cell 1
            simp at ct
            rw [evj] at ct
            have HX := Lib.hid hx
            clear evj hx
            go_wp2_with fail
            go_round
            case rel => exact ⟨1, rfl, rfl, by omega, fun k' hk' => by
              by_cases h : k' = 0
              · subst h; exact HX.out
              · exact HEM.out k' (by omega)⟩
            case measure => simp [intOf]
          · obtain ⟨e, l2, hx2⟩ : ∃ e l2, q.x 3 = e :: l2 := by
              cases h : q.x 3 with
              | nil => exact absurd h hx
              | cons e l2 => exact ⟨e, l2, rfl⟩
            obtain ⟨m, hm, herr, hgood⟩ := good_move HG.out 3 (by decide) e l2 hx2
            have hown := hPW.own 3 (by decide)
            rw [hx2] at hown
            obtain ⟨gq, oq, cq, evq, hcq, hgq, hlq, vq, hrun, hoq, hbq, h1q⟩ := hown.first
            have hatT := hPW.th
            have ct := hatT.cell 1
            simp at ct
            rw [evq] at ct
            obtain ⟨n2, hn2⟩ : ∃ n2, l2.length + 1 = n2 := ⟨_, rfl⟩
            have hn0 : 0 < n2 := by omega
            have hn0' : 0 < (n2 : Int) := by omega
            have hn63 : n2 ≤ 100 := by have := shortQ_iff (good_short HG.out) 3; rw [hx2] at this; simp at this; omega
            rw [evq] at hrun
            rw [hn2] at hrun ct evq
            have HRUN := Lib.hid hrun
            have HQ2 := Lib.hid (And.intro hoq (And.intro hbq (And.intro evq (And.intro hm (And.intro herr hgood)))))
            have H1Q := Lib.hid h1q
            have HPW := Lib.hid hPW
            have HSH := Lib.hid (show shortQ (q.setX 3 l2) = true by
              have h := good_short HG.out
              have hl := shortQ_iff h 3
              rw [hx2] at hl
              simp at hl
              unfold shortQ at h ⊢
              simp only [Bool.and_eq_true, decide_eq_true_eq] at h ⊢
              obtain ⟨⟨⟨a1, a2⟩, a3⟩, a4⟩ := h
              simp [Q.setX, a1, a2, a3, a4]
              omega)
            clear hx hx2 hm herr hgood hown hrun hoq hbq h1q evq hn2 hPW hlq
            go_wp2_with (first
              | ((with_reducible refine wpl_sliceR rfl 22 _ _ _ _ rfl (.slice (some ⟨gq, oq, none⟩) n2 cq) vq (some (.int .i64 1)) none none ?_ ?_ ?_ ?_ (HRUN.out _) ?_); rfl; rfl; rfl; rfl)
              | ((with_reducible refine wpl_storeC rfl 22 (.tmp 122) (.tmp 121) rfl rfl gt 1 34 (#[v 2, v 3] : Array Value) ((#[v 2, v 3] : Array Value).set! 1 vq) vq ?_ ?_ hatT ?_ (by kernel_rfl) H1Q.out rfl ?_); rfl; rfl; (show (1 : Nat) < 2; decide); go_must (intro u3 hat3 hg3; have HP3 := Lib.hid (HPW.out.setX 3 (by decide) rfl l2 vq HQ2.out.1 ⟨rfl, rfl, rfl, Nat.le_refl _, fun _ _ _ => rfl⟩ (.inl HQ2.out.2.1) hat3 hg3); have HB3 := Lib.hid (below_grown HBW.out hg3 HPW.out.size HPW.out.base.2.2.1); clear hat3 hg3 hatT ct hcq))
              | (go_at_call 14; go_must (refine (side1 HP3.out w0 HW1.out HN.out.1 HN.out.2 e HQ2.out.2.2.2.2.1 HSH.out).mono ?_; rintro e9 u4 ⟨rfl, hp4, hb4⟩; have HP4 := Lib.hid (And.intro hp4 hb4); clear hp4 hb4)))
            go_roundw
            case rel =>
              obtain ⟨⟨v4, hp4⟩, hb4⟩ := HP4.out
              have hm := HQ2.out.2.2.2.1
              refine ⟨i + 1, _, v4, by go_num, by omega, ?_, hp4, HB3.out.trans hb4⟩
              rw [show 6 - (i + 1) = m from by omega]
              exact HQ2.out.2.2.2.2.2
            case measure => simp [intOf]; omega
        · by_cases hx : q.x 2 = []
          · obtain ⟨pj, cj, evj⟩ := (hPW.own 2 (by decide)).form
            rw [hx] at evj
            simp only [List.length_nil] at evj
            have ct := hPW.th.cell 0
            simp at ct
            rw [evj] at ct
            have HX := Lib.hid hx
            clear evj hx
            go_wp2_with fail
            go_round
            case rel => exact ⟨2, rfl, rfl, by omega, fun k' hk' => by
              by_cases h : k' = 1
              · subst h; exact HX.out
              · exact HEM.out k' (by omega)⟩
            case measure => simp [intOf]
          · obtain ⟨e, l2, hx2⟩ : ∃ e l2, q.x 2 = e :: l2 := by
              cases h : q.x 2 with
              | nil => exact absurd h hx
              | cons e l2 => exact ⟨e, l2, rfl⟩
            obtain ⟨m, hm, herr, hgood⟩ := good_move HG.out 2 (by decide) e l2 hx2
            have hown := hPW.own 2 (by decide)
            rw [hx2] at hown
            obtain ⟨gq, oq, cq, evq, hcq, hgq, hlq, vq, hrun, hoq, hbq, h1q⟩ := hown.first
            have hatT := hPW.th
            have ct := hatT.cell 0
            simp at ct
            rw [evq] at ct
            obtain ⟨n2, hn2⟩ : ∃ n2, l2.length + 1 = n2 := ⟨_, rfl⟩
            have hn0 : 0 < n2 := by omega
            have hn0' : 0 < (n2 : Int) := by omega
            have hn63 : n2 ≤ 100 := by have := shortQ_iff (good_short HG.out) 2; rw [hx2] at this; simp at this; omega
            rw [evq] at hrun
            rw [hn2] at hrun ct evq
            have HRUN := Lib.hid hrun
            have HQ2 := Lib.hid (And.intro hoq (And.intro hbq (And.intro evq (And.intro hm (And.intro herr hgood)))))
            have H1Q := Lib.hid h1q
            have HPW := Lib.hid hPW
            have HSH := Lib.hid (show shortQ (q.setX 2 l2) = true by
              have h := good_short HG.out
              have hl := shortQ_iff h 2
              rw [hx2] at hl
              simp at hl
              unfold shortQ at h ⊢
              simp only [Bool.and_eq_true, decide_eq_true_eq] at h ⊢
              obtain ⟨⟨⟨a1, a2⟩, a3⟩, a4⟩ := h
              simp [Q.setX, a1, a2, a3, a4]
              omega)
            clear hx hx2 hm herr hgood hown hrun hoq hbq h1q evq hn2 hPW hlq
            go_wp2_with (first
              | ((with_reducible refine wpl_sliceR rfl 22 _ _ _ _ rfl (.slice (some ⟨gq, oq, none⟩) n2 cq) vq (some (.int .i64 1)) none none ?_ ?_ ?_ ?_ (HRUN.out _) ?_); rfl; rfl; rfl; rfl)
              | ((with_reducible refine wpl_storeC rfl 22 (.tmp 122) (.tmp 121) rfl rfl gt 0 34 (#[v 2, v 3] : Array Value) ((#[v 2, v 3] : Array Value).set! 0 vq) vq ?_ ?_ hatT ?_ (by kernel_rfl) H1Q.out rfl ?_); rfl; rfl; (show (0 : Nat) < 2; decide); go_must (intro u3 hat3 hg3; have HP3 := Lib.hid (HPW.out.setX 2 (by decide) rfl l2 vq HQ2.out.1 ⟨rfl, rfl, rfl, Nat.le_refl _, fun _ _ _ => rfl⟩ (.inl HQ2.out.2.1) hat3 hg3); have HB3 := Lib.hid (below_grown HBW.out hg3 HPW.out.size HPW.out.base.2.2.1); clear hat3 hg3 hatT ct hcq))
              | (go_at_call 14; go_must (refine (side0 HP3.out w0 HW0.out HN.out.1 HN.out.2 e HQ2.out.2.2.2.2.1 HSH.out).mono ?_; rintro e9 u4 ⟨rfl, hp4, hb4⟩; have HP4 := Lib.hid (And.intro hp4 hb4); clear hp4 hb4)))
            go_roundw
            case rel =>
              obtain ⟨⟨v4, hp4⟩, hb4⟩ := HP4.out
              have hm := HQ2.out.2.2.2.1
              refine ⟨i + 1, _, v4, by go_num, by omega, ?_, hp4, HB3.out.trans hb4⟩
              rw [show 6 - (i + 1) = m from by omega]
              exact HQ2.out.2.2.2.2.2
            case measure => simp [intOf]; omega
        · by_cases hx : q.x 1 = []
          · obtain ⟨pj, cj, evj⟩ := (hPW.own 1 (by decide)).form
            rw [hx] at evj
            simp only [List.length_nil] at evj
            have ct := hPW.mi.cell 1
            simp at ct
            rw [evj] at ct
            have HX := Lib.hid hx
            clear evj hx
            go_wp2_with fail
            go_round
            case rel => exact ⟨3, rfl, rfl, by omega, fun k' hk' => by
              by_cases h : k' = 2
              · subst h; exact HX.out
              · exact HEM.out k' (by omega)⟩
            case measure => simp [intOf]
          · obtain ⟨e, l2, hx2⟩ : ∃ e l2, q.x 1 = e :: l2 := by
              cases h : q.x 1 with
              | nil => exact absurd h hx
              | cons e l2 => exact ⟨e, l2, rfl⟩
            obtain ⟨m, hm, herr, hgood⟩ := good_move HG.out 1 (by decide) e l2 hx2
            have hown := hPW.own 1 (by decide)
            rw [hx2] at hown
            obtain ⟨gq, oq, cq, evq, hcq, hgq, hlq, vq, hrun, hoq, hbq, h1q⟩ := hown.first
            have hatT := hPW.mi
            have ct := hatT.cell 1
            simp at ct
            rw [evq] at ct
            obtain ⟨n2, hn2⟩ : ∃ n2, l2.length + 1 = n2 := ⟨_, rfl⟩
            have hn0 : 0 < n2 := by omega
            have hn0' : 0 < (n2 : Int) := by omega
            have hn63 : n2 ≤ 100 := by have := shortQ_iff (good_short HG.out) 1; rw [hx2] at this; simp at this; omega
            rw [evq] at hrun
            rw [hn2] at hrun ct evq
            have HRUN := Lib.hid hrun
            have HQ2 := Lib.hid (And.intro hoq (And.intro hbq (And.intro evq (And.intro hm (And.intro herr hgood)))))
            have H1Q := Lib.hid h1q
            have HPW := Lib.hid hPW
            have HSH := Lib.hid (show shortQ (q.setX 1 l2) = true by
              have h := good_short HG.out
              have hl := shortQ_iff h 1
              rw [hx2] at hl
              simp at hl
              unfold shortQ at h ⊢
              simp only [Bool.and_eq_true, decide_eq_true_eq] at h ⊢
              obtain ⟨⟨⟨a1, a2⟩, a3⟩, a4⟩ := h
              simp [Q.setX, a1, a2, a3, a4]
              omega)
            clear hx hx2 hm herr hgood hown hrun hoq hbq h1q evq hn2 hPW hlq
            go_wp2_with (first
              | ((with_reducible refine wpl_sliceR rfl 22 _ _ _ _ rfl (.slice (some ⟨gq, oq, none⟩) n2 cq) vq (some (.int .i64 1)) none none ?_ ?_ ?_ ?_ (HRUN.out _) ?_); rfl; rfl; rfl; rfl)
              | ((with_reducible refine wpl_storeC rfl 22 (.tmp 97) (.tmp 96) rfl rfl gm 1 34 (#[v 0, v 1] : Array Value) ((#[v 0, v 1] : Array Value).set! 1 vq) vq ?_ ?_ hatT ?_ (by kernel_rfl) H1Q.out rfl ?_); rfl; rfl; (show (1 : Nat) < 2; decide); go_must (intro u3 hat3 hg3; have HP3 := Lib.hid (HPW.out.setX 1 (by decide) rfl l2 vq HQ2.out.1 ⟨rfl, rfl, rfl, Nat.le_refl _, fun _ _ _ => rfl⟩ (.inl HQ2.out.2.1) hat3 hg3); have HB3 := Lib.hid (below_grown HBW.out hg3 HPW.out.size HPW.out.base.2.2.2); clear hat3 hg3 hatT ct hcq))
              | (go_at_call 14; go_must (refine (side1 HP3.out w0 HW1.out HN.out.1 HN.out.2 e HQ2.out.2.2.2.2.1 HSH.out).mono ?_; rintro e9 u4 ⟨rfl, hp4, hb4⟩; have HP4 := Lib.hid (And.intro hp4 hb4); clear hp4 hb4)))
            go_roundw
            case rel =>
              obtain ⟨⟨v4, hp4⟩, hb4⟩ := HP4.out
              have hm := HQ2.out.2.2.2.1
              refine ⟨i + 1, _, v4, by go_num, by omega, ?_, hp4, HB3.out.trans hb4⟩
              rw [show 6 - (i + 1) = m from by omega]
              exact HQ2.out.2.2.2.2.2
            case measure => simp [intOf]; omega
        · by_cases hx : q.x 0 = []
          · obtain ⟨pj, cj, evj⟩ := (hPW.own 0 (by decide)).form
            rw [hx] at evj
            simp only [List.length_nil] at evj
            have ct := hPW.mi.cell 0
            simp at ct
            rw [evj] at ct
            have HX := Lib.hid hx
            clear evj hx
            go_wp2_with fail
            go_round
            case rel => exact ⟨4, rfl, rfl, by omega, fun k' hk' => by
              by_cases h : k' = 3
              · subst h; exact HX.out
              · exact HEM.out k' (by omega)⟩
            case measure => simp [intOf]
          · obtain ⟨e, l2, hx2⟩ : ∃ e l2, q.x 0 = e :: l2 := by
              cases h : q.x 0 with
              | nil => exact absurd h hx
              | cons e l2 => exact ⟨e, l2, rfl⟩
            obtain ⟨m, hm, herr, hgood⟩ := good_move HG.out 0 (by decide) e l2 hx2
            have hown := hPW.own 0 (by decide)
            rw [hx2] at hown
            obtain ⟨gq, oq, cq, evq, hcq, hgq, hlq, vq, hrun, hoq, hbq, h1q⟩ := hown.first
            have hatT := hPW.mi
            have ct := hatT.cell 0
            simp at ct
            rw [evq] at ct
            obtain ⟨n2, hn2⟩ : ∃ n2, l2.length + 1 = n2 := ⟨_, rfl⟩
            have hn0 : 0 < n2 := by omega
            have hn0' : 0 < (n2 : Int) := by omega
            have hn63 : n2 ≤ 100 := by have := shortQ_iff (good_short HG.out) 0; rw [hx2] at this; simp at this; omega
            rw [evq] at hrun
            rw [hn2] at hrun ct evq
            have HRUN := Lib.hid hrun
            have HQ2 := Lib.hid (And.intro hoq (And.intro hbq (And.intro evq (And.intro hm (And.intro herr hgood)))))
            have H1Q := Lib.hid h1q
            have HPW := Lib.hid hPW
            have HSH := Lib.hid (show shortQ (q.setX 0 l2) = true by
              have h := good_short HG.out
              have hl := shortQ_iff h 0
              rw [hx2] at hl
              simp at hl
              unfold shortQ at h ⊢
              simp only [Bool.and_eq_true, decide_eq_true_eq] at h ⊢
              obtain ⟨⟨⟨a1, a2⟩, a3⟩, a4⟩ := h
              simp [Q.setX, a1, a2, a3, a4]
              omega)
            clear hx hx2 hm herr hgood hown hrun hoq hbq h1q evq hn2 hPW hlq
            go_wp2_with (first
              | ((with_reducible refine wpl_sliceR rfl 22 _ _ _ _ rfl (.slice (some ⟨gq, oq, none⟩) n2 cq) vq (some (.int .i64 1)) none none ?_ ?_ ?_ ?_ (HRUN.out _) ?_); rfl; rfl; rfl; rfl)
              | ((with_reducible refine wpl_storeC rfl 22 (.tmp 97) (.tmp 96) rfl rfl gm 0 34 (#[v 0, v 1] : Array Value) ((#[v 0, v 1] : Array Value).set! 0 vq) vq ?_ ?_ hatT ?_ (by kernel_rfl) H1Q.out rfl ?_); rfl; rfl; (show (0 : Nat) < 2; decide); go_must (intro u3 hat3 hg3; have HP3 := Lib.hid (HPW.out.setX 0 (by decide) rfl l2 vq HQ2.out.1 ⟨rfl, rfl, rfl, Nat.le_refl _, fun _ _ _ => rfl⟩ (.inl HQ2.out.2.1) hat3 hg3); have HB3 := Lib.hid (below_grown HBW.out hg3 HPW.out.size HPW.out.base.2.2.2); clear hat3 hg3 hatT ct hcq))
              | (go_at_call 14; go_must (refine (side0 HP3.out w0 HW0.out HN.out.1 HN.out.2 e HQ2.out.2.2.2.2.1 HSH.out).mono ?_; rintro e9 u4 ⟨rfl, hp4, hb4⟩; have HP4 := Lib.hid (And.intro hp4 hb4); clear hp4 hb4)))
            go_roundw
            case rel =>
              obtain ⟨⟨v4, hp4⟩, hb4⟩ := HP4.out
              have hm := HQ2.out.2.2.2.1
              refine ⟨i + 1, _, v4, by go_num, by omega, ?_, hp4, HB3.out.trans hb4⟩
              rw [show 6 - (i + 1) = m from by omega]
              exact HQ2.out.2.2.2.2.2
            case measure => simp [intOf]; omega
        · have HF := Lib.hid (good_end HG.out (fun j hj => by
            have h0 := HEM.out 0 (by omega)
            have h1 := HEM.out 1 (by omega)
            have h2 := HEM.out 2 (by omega)
            have h3 := HEM.out 3 (by omega)
            simp [jof] at h0 h1 h2 h3
            match j, hj with
            | 0, _ => assumption
            | 1, _ => assumption
            | 2, _ => assumption
            | 3, _ => assumption))
          have cs0 := hPW.st.cell 0
          have cs1 := hPW.st.cell 1
          simp at cs0 cs1
          have HPW := Lib.hid hPW
          clear hPW
          cases w0 with
          | true =>
            obtain ⟨f1, f2⟩ : q.s0 = 6 ∧ q.s1 = 5 := by have := HF.out; simpa [finalQ] using this
            rw [f1] at cs0
            rw [f2] at cs1
            clear f1 f2
            go_wp2_with (go_at_call 12; go_must (refine (P2.out wr).mono ?_; rintro e w9 ⟨rfl, hb9⟩; have hz9 := (hb9.cell (p := ⟨gs, 0, none⟩) HPW.out.st.lt).trans cs0; have hz8 := (hb9.cell (p := ⟨gs, 1, none⟩) HPW.out.st.lt).trans cs1; have HB9 := Lib.hid (HBW.out.trans (hb9.mono HPW.out.size)); clear hb9 cs0 cs1))
            go_ret
            exact ⟨rfl, HB9.out⟩
          | false =>
            obtain ⟨f1, f2⟩ : q.s1 = 6 ∧ q.s0 = 5 := by have := HF.out; simpa [finalQ] using this
            rw [f2] at cs0
            rw [f1] at cs1
            clear f1 f2
            go_wp2_with (go_at_call 12; go_must (refine (P2.out wr).mono ?_; rintro e w9 ⟨rfl, hb9⟩; have hz9 := (hb9.cell (p := ⟨gs, 0, none⟩) HPW.out.st.lt).trans cs0; have hz8 := (hb9.cell (p := ⟨gs, 1, none⟩) HPW.out.st.lt).trans cs1; have HB9 := Lib.hid (HBW.out.trans (hb9.mono HPW.out.size)); clear hb9 cs0 cs1))
            go_ret
            exact ⟨rfl, HB9.out⟩
end Go.Proofs.Ytamemmbcdkhdhaa.Peer
