/-
  The walk of RtoSound.
-/
import Derived.Test.YtljalbcmhcagaaaLaws3
import Derived.Test.YtljalbcmhcagaaaOpen2
import Derived.StillTailTactics

namespace Go.Proofs.Ytljalbcmhcagaaa.Way
open Go.RowKit Mem
set_option linter.unusedVariables false
set_option linter.unusedSimpArgs false
attribute [local simp] MonoG.DepFacts MonoG.want MonoG.isV MonoG.Fin Act.eval Act.put Region.binds

/-- A slice of steps: what each holds. -/
def Steps (W : World) (a : Option Addr) (len : Nat) (f : Nat → Int × Int × Bool) : Prop :=
  0 < len → ∃ b off, a = some ⟨b, off, none⟩ ∧ b < W.heap.size ∧ ∀ i, i < len → W.cell? ⟨b, off + i * 3, none⟩ = some (.int .i64 (f i).1) ∧ W.cell? ⟨b, off + i * 3 + 1, none⟩ = some (.int .i64 (f i).2.1) ∧ W.cell? ⟨b, off + i * 3 + 2, none⟩ = some (.bool (f i).2.2)
theorem open_steps {H : Type} {enc : TypeId × Value → H} {W : World} {base : Nat} {v : Value} {d : DataW H} {p : List MemPlace} (hv : Value.okWide Try.prog W .any base 35 v) (h : DataW.Trod enc Try.prog W 0 (fun _ => true) true 35 v d p) :
    ∃ a len cap f, v = .slice a len cap ∧ len ≤ cap ∧ cap ≤ maxLen ∧ Steps W a len f := by
  obtain ⟨a0, l0, c0, rfl⟩ := Go.WideShapes.okWide_slice Try.underlying35 hv
  obtain ⟨fuel, hf⟩ := h
  obtain ⟨a, len, cap, he, h1, h2, _, h4, h5⟩ := Open.slice (k := 3) Try.underlying35 (by kernel_rfl) (by decide) hf
  simp [Value.cells] at he
  obtain ⟨rfl, rfl, rfl⟩ := he
  have key : ∀ i, ∃ y : Int × Int × Bool, i < l0 → ∀ b off, a0 = some ⟨b, off, none⟩ → W.cell? ⟨b, off + i * 3, none⟩ = some (.int .i64 y.1) ∧ W.cell? ⟨b, off + i * 3 + 1, none⟩ = some (.int .i64 y.2.1) ∧ W.cell? ⟨b, off + i * 3 + 2, none⟩ = some (.bool y.2.2) := by
    intro i
    by_cases hi : i < l0
    · obtain ⟨b, off, rfl, _⟩ := h4 (by omega)
      obtain ⟨cs, n, x, hl, hc, ht⟩ := h5 b off rfl i hi
      obtain ⟨y0, y1, y2, m, _, _, t0, t1, t2⟩ := Deep.trod_struct3 Try.underlying39 ht
      rw [show Try.prog.cellsOf 3 = 1 from by kernel_rfl] at t0 t1
      rw [show Try.prog.cellsOf 4 = 1 from by kernel_rfl] at t2
      obtain ⟨n0, e0, _⟩ := DataW.trod_int Try.underlying3 t0
      obtain ⟨n1, e1, _⟩ := DataW.trod_int Try.underlying3 t1
      obtain ⟨n2, e2, _⟩ := DataW.trod_bool Try.underlying4 t2
      refine ⟨(n0, n1, n2), fun _ b' off' hab => ?_⟩
      cases hab
      match cs, hl with
      | [q0, q1, q2], _ =>
        have g0 := hc 0 (by decide)
        have g1 := hc 1 (by decide)
        have g2 := hc 2 (by decide)
        simp at e0 e1 e2 g0 g1 g2
        subst e0 e1 e2
        exact ⟨g0, g1, g2⟩
    · exact ⟨(0, 0, false), fun h => absurd h hi⟩
  obtain ⟨f, hf'⟩ := Classical.axiomOfChoice key
  refine ⟨a0, l0, c0, f, rfl, h1, h2, fun h0 => ?_⟩
  obtain ⟨b, off, hab, hb⟩ := h4 h0
  exact ⟨b, off, hab, hb, fun i hi => hf' i hi b off hab⟩

set_option maxRecDepth 100000 in
set_option maxHeartbeats 3200000 in
theorem soundL (a : Option Addr) (len cap : Nat) (f : Nat → Int × Int × Bool) (w : World) (hlc : len ≤ cap) (hcm : cap ≤ maxLen) (hst : Steps w a len f) :
    Calls Try.prog 7 #[.slice a len cap] w fun e w' => e = .returned (.bool true) ∧ Below w.heap.size w w' := by
  unfold maxLen at hcm
  have hnew : okB new7 = true := by rfl
  have HN := Lib.hid hnew
  have HST := Lib.hid hst
  clear hnew hst
  go_enter Try.func7, Try.ntmps7
  go_wp2_with fail
  refine (new w).mono ?_
  rintro e w1 ⟨rfl, b1⟩
  have hn1 := At.new w1 new7
  have hb1 := b1.alloc b1.size (.cells (cells new7) 23)
  have hge := b1.size
  clear b1
  go_wp2_with fail
  go_loopw [4] (fun i wr => ∃ (k : Nat) (y : Wy), k ≤ len ∧ i = .int .i64 k ∧ okB y = true ∧ At wr w1.heap.size y ∧ Below w.heap.size w wr) (fun i _ => len - (intOf i).toNat)
  case atStart => exact ⟨0, new7, by omega, rfl, HN.out, hn1, hb1⟩
  case round =>
    clear hn1 hb1
    obtain ⟨k, y, hk, rfl, ho, hat, hbl⟩ := hrel
    by_cases hlt : k < len ∧ k < 300
    · obtain ⟨hlt, hlt3⟩ := hlt
      obtain ⟨b, off, hab, hbb, hc⟩ := HST.out (by omega)
      subst hab
      obtain ⟨g0, g1, g2⟩ := hc k hlt
      clear hc
      obtain ⟨kd, hkd⟩ : ∃ kd, (f k).1 = kd := ⟨_, rfl⟩
      obtain ⟨n, hn⟩ : ∃ n, (f k).2.1 = n := ⟨_, rfl⟩
      obtain ⟨full, hfull⟩ : ∃ full, (f k).2.2 = full := ⟨_, rfl⟩
      rw [hkd] at g0
      rw [hn] at g1
      rw [hfull] at g2
      clear hkd hn hfull
      replace g0 := (hbl.cell (p := ⟨b, off + k * 3, none⟩) hbb).trans g0
      replace g1 := (hbl.cell (p := ⟨b, off + k * 3 + 1, none⟩) hbb).trans g1
      replace g2 := (hbl.cell (p := ⟨b, off + k * 3 + 2, none⟩) hbb).trans g2
      have hlt64 : ((k : Int)) < (len : Int) := by omega
      obtain ⟨c0, c1, c2, c3, c4, c5, c6⟩ := hat.cells7
      go_wp2_with fail
      go_still_tail 5, (by kernel_rfl)
      change wpList _ _ _ _ _ wr.drew
      have hatd : At wr.drew w1.heap.size y := hat
      have hbld : Below w.heap.size w wr.drew := hbl.drew
      generalize wr.drew = wd at hatd hbld
      clear hat hbl c0 c1 c2 c3 c4 c5 c6 g0 g1 g2
      have ho2 := Lib.hid (walk_ok (kd := kd) (n := n) (full := full) ho)
      have HO := Lib.hid ho
      clear ho
      go_wp2_with fail
      refine (walk y kd n full _ HO.out).mono ?_
      rintro e v ⟨rfl, bv⟩
      have hat2 := hatd.below bv hatd.lt
      have hbl2 := Frame.ext hbld bv
      clear hatd hbld bv
      generalize walkW y kd n full = z at ho2
      have hz := (okB_iff z).1 ho2.out
      have hat3 : At (v.setRow w1.heap.size (cells z)) w1.heap.size z := hat2.row
      have hbl3 : Below w.heap.size w (v.setRow w1.heap.size (cells z)) := below_setRow hbl2 hge _
      go_wp2_with (first
        | (refine wpList_store_row rfl 23 (.tmp 3) _ rfl w1.heap.size (cells z) rfl rfl 23 _ hat2 (by kernel_rfl) rfl (cells_one _) ?_)
        | (refine wpList_load_row rfl 23 (.tmp 3) rfl w1.heap.size rfl 23 _ _ _ hat3 Try.underlying23 rfl (by kernel_rfl) ?_))
      refine (sound z _).mono ?_
      rintro e u ⟨rfl, bu⟩
      rw [ho2.out]
      have hat4 := hat3.below bu hat3.lt
      have hbl4 := Frame.ext hbl3 bu
      obtain ⟨c0, c1, c2, c3, c4, c5, c6⟩ := hat4.cells7
      clear hat2 hat3 hbl2 hbl3 bu
      have t1 : ¬ z.r < 4 := by omega
      have t2 : ¬ 64 < z.r := by omega
      have t3 : ¬ z.c < 512 := by omega
      have t4 : ¬ 65536 < z.c := by omega
      go_wp2
      exact ⟨⟨k + 1, z, by omega, by go_num, ho2.out, hat4, hbl4⟩, by simp [intOf]; omega⟩
    · have HO := Lib.hid ho
      clear ho
      have hcase : ((k : Int) < (len : Int) ∧ ¬ (k : Int) < 300) ∨ ¬ (k : Int) < (len : Int) := by omega
      clear hlt
      rcases hcase with ⟨hl1, hl2⟩ | hl1
      all_goals
        go_wp2_with fail
        refine (answers _).mono ?_
        rintro e v ⟨rfl, bv⟩
        have hat2 := hat.below bv hat.lt
        have hbl2 := Frame.ext hbl bv
        clear hat hbl bv
        go_wp2_with (refine wpl_wanted (by rfl) ?_; refine wpList_load_row rfl 23 (.tmp 3) rfl w1.heap.size rfl 23 _ _ _ hat2 Try.underlying23 rfl (by kernel_rfl) ?_)
        refine (sound y _).mono ?_
        rintro e u ⟨rfl, bu⟩
        rw [HO.out]
        have hbl4 := Frame.ext hbl2 bu
        clear bu hat2 hbl2
        go_wp2
        go_ret
        exact ⟨rfl, hbl4⟩
end Go.Proofs.Ytljalbcmhcagaaa.Way
