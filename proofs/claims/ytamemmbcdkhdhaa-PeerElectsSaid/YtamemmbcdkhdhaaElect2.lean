/-
  Contract: the closure of PeerElects: one event at one side.
-/
import Derived.Test.YtamemmbcdkhdhaaElect1
import Derived.Deep.Cut
import Derived.Deep.DeepMust
namespace Go.Proofs.Ytamemmbcdkhdhaa.Peer
open Go.RowKit Mem Cells Ops
set_option linter.unusedVariables false
set_option linter.unusedSimpArgs false

section
variable {P : Program} {w : World} {ops : Array Oper} {rest : List Oper} {o : Oper} {a : Act} {Q' : Exit → Act → World → Prop}
/-- A slice of one number. -/
theorem wpl_build1 {w : World} {ops : Array Oper} {rest : List Oper} {o : Oper} {a : Act} {Q' : Exit → Act → World → Prop} (hgd : o.guard = none) (n : Int) (ho : o.op = .buildSlice 22 1 #[(0, .const (.int .i64 n))])
    (h : ∀ w', At w' w.heap.size 3 #[.int .i64 n] → Below w.heap.size w w' → wpList Try.prog ops Q' rest (a.put o.dst (.slice (some ⟨w.heap.size, 0, none⟩) 1 1)) w') : wpList Try.prog ops Q' (o :: rest) a w :=
  wpList_plain hgd fun K' hK => Mem.wp_build 22 1 (.const (.int .i64 n)) ho _ _ _ rfl (show (Instr.buildSlice 22 1 #[(0, .int .i64 n)]).run Try.prog w = .ok (.slice (some ⟨w.heap.size, 0, none⟩) 1 1) (w.alloc (.cells #[.int .i64 n] 3)) by kernel_rfl) (hK _ _ (h _ (At.new w 3 _) ((Below.refl _ w).alloc (Nat.le_refl _) _)))
theorem wpl_appendV (hgd : o.guard = none) (t : TypeId) (s x : Operand) (ho : o.op = .call { callee := .builtin .append, args := #[s, x], argTypes := #[t, t] }) (vs vx r : Value) (w' : World) (hs : a.eval s = vs) (hx : a.eval x = vx)
    (hrun : (Builtin.append_ #[t, t] o.type #[vs, vx]).run P w = .ok r w') (K : wpList P ops Q' rest (a.put o.dst r) w') : wpList P ops Q' (o :: rest) a w := by
  refine wpList_plain hgd fun K' hK => ?_
  unfold Oper.wp execOp
  simp only [ho, resolve, invoke, builtin, Sem.run_bind, Sem.run_pure, Result.andThen_ok, List.map_toArray, List.map_cons, List.map_nil, hs, hx, hrun]
  exact hK _ _ K
end
def tupP (B : Nat) (n : Int) (xs : List Int) : Mono.Prp := ⟨fun v w => ∃ d, v = .tuple #[.int .i64 n, d, .int .i64 0] ∧ Row .i64 3 B w d xs, fun _ _ _ h hb => by obtain ⟨d, h1, h2⟩ := h; exact ⟨d, h1, h2.below hb⟩⟩
def rowI (B : Nat) (xs : List Int) : Mono.Prp := ⟨fun v w => Row .i64 3 B w v xs, fun _ _ _ h hb => h.below hb⟩
theorem rowI_out {B : Nat} {xs : List Int} {v : Value} {w : World} (h : (rowI B xs).R v w) : Row .i64 3 B w v xs := h
/-- A list of the call's own is kept where a queue is written. -/
theorem row_blk {B : Nat} {w w' : World} {d v : Value} {xs : List Int} (h : Row .i64 3 B w d xs) (hg : w.grownBy w' (blk v)) (hne : ∀ g, blk v = some g → d.ownBlock ≠ some g) : Row .i64 3 B w' d xs := by
  refine h.kept hg ?_
  cases hb : blk v with
  | none => cases d.ownBlock <;> simp
  | some g => exact .inr (hne g hb)
theorem doOne_take (s : Nat) (q : Q) (l : List Int) (k : Nat) (d : Int) (h : l[k]? = some d) : (l.take (k + 1)).foldl (doOne s) q = doOne s ((l.take k).foldl (doOne s) q) d := by
  rw [List.take_add_one, h]
  simp
theorem doOne_len (s : Nat) (hs : s < 2) (q : Q) (d : Int) (m : Nat) (h : ∀ j, j < 4 → (q.x j).length ≤ m) : ∀ j, j < 4 → ((doOne s q d).x j).length ≤ m + 1 := by
  intro j hj
  have key : ∀ (i : Nat) (n : Int), i < 4 → ((q.push i n).x j).length ≤ m + 1 := by
    intro i n hi
    unfold Q.push
    rw [x_setX q i j _ hi hj]
    have h1 := h i hi
    have h2 := h j hj
    split
    · rw [List.length_append]; simp; omega
    · omega
  unfold doOne
  split
  · exact key _ _ (by omega)
  · split
    · exact key _ _ (by omega)
    · split
      · exact key _ _ (by omega)
      · split
        · exact key _ _ (by omega)
        · have := h j hj; omega
theorem row_at {B : Nat} {w : World} {d : Value} {xs : List Int} (h : Row .i64 3 B w d xs) {g : Nat} (hg : d.ownBlock = some g) : ∃ cur, At w g 3 cur := by
  have ho : w.ownsRow B 3 1 d xs.length _ := h
  rcases ho.2 with ⟨rfl, _⟩ | ⟨g', cap, cur, rfl, _, hgg, _⟩
  · cases hg
  · cases hg; exact ⟨cur, hgg⟩
set_option maxRecDepth 100000 in
set_option maxHeartbeats 3200000 in
theorem side0 {B : Nat} {w : World} {gs gn gt gm : Nat} {na nb : ByteArray} {q : Q} {v : Nat → Value} (hP : PW B w gs gn gt gm na nb q v) (w0 : Bool) (hw : winB na nb = winOf w0 0) (ha : na.size ≤ 9223372036854775807) (hb : nb.size ≤ 9223372036854775807) (ev : Int) (he : errF (q.st 0) ev = 0) (hsh : shortQ q = true) :
    Calls Try.prog 14 #[.int .i64 0, .int .i64 ev, .pointer (some ⟨gs, 0, none⟩), .pointer (some ⟨gn, 0, none⟩), .pointer (some ⟨gt, 0, none⟩), .pointer (some ⟨gm, 0, none⟩)] w fun e w' => e = .returned (.bool true) ∧ (∃ v', PW B w' gs gn gt gm na nb (stepQ w0 q 0 ev) v') ∧ Below B w w' := by
  obtain ⟨st, hst⟩ : ∃ st, q.st 0 = st := ⟨_, rfl⟩
  obtain ⟨wn, hwn⟩ : ∃ wn, winOf w0 0 = wn := ⟨_, rfl⟩
  have PWIN := Lib.hid (fun u => by have := wins na nb u ha hb; rwa [hw, hwn] at this)
  have PSTEP0 := fun u => step st ev wn u
  obtain ⟨n, hn⟩ : ∃ n, nextF st ev wn = n := ⟨_, rfl⟩
  obtain ⟨xs, hxs⟩ : ∃ xs, doF st ev wn = xs := ⟨_, rfl⟩
  rw [hst] at he
  have hlx : xs.length ≤ 3 := by rw [← hxs]; exact doF_le st ev wn
  rw [hn, hxs, he] at PSTEP0
  have PSTEP := Lib.hid PSTEP0
  have HQ := Lib.hid (show stepQ w0 q 0 ev = xs.foldl (doOne 0) (q.setSt 0 n) by unfold stepQ; rw [hst, hwn, hn, hxs])
  have HH := Lib.hid hP
  have cs := hP.st.cell 0
  have cn0 := hP.nm.cell 0
  have cn1 := hP.nm.cell 1
  simp at cs cn0 cn1
  rw [show q.s0 = st from hst] at cs
  have kw0 : IntKind.i64.wrap 0 = 0 := by decide
  have kw1 : IntKind.i64.wrap 1 = 1 := by decide
  have ls := hP.st.lt
  have ln := hP.nm.lt
  have HSH := Lib.hid (fun j => shortQ_iff hsh j)
  clear PSTEP0 hst hwn hn hxs hw he hsh ha hb hP
  go_enter Try.func14, Try.ntmps14
  go_upto_region 1 with fail
  refine Mono.wp_region_mono [some 14, some 15, some 16, some 17, some 18, some 19, some 20, some 21, some 22, some 23, some 24, some 25, some 26, some 13, some 27, some 28, some 29, some 9, some 10, some 11] [Mono.isV (.int .i64 0), Mono.isV (.pointer (some ⟨gs, 0, none⟩)), Mono.isV (.int .i64 st), Mono.isV (.int .i64 ev), Mono.isV (.int .i64 0), Mono.isV (.pointer (some ⟨gn, 0, none⟩)), Mono.isV (.string na), Mono.isV (.int .i64 0), Mono.isV (.int .i64 1), Mono.isV (.pointer (some ⟨gn, 1, none⟩)), Mono.isV (.string nb), Mono.isV (.bool wn), tupP w.heap.size n xs, tupP w.heap.size n xs, Mono.isV (.int .i64 n), rowI w.heap.size xs, Mono.isV (.int .i64 0), Mono.isV (.int .i64 n), rowI w.heap.size xs, Mono.isV (.int .i64 0)] (by kernel_rfl) (by kernel_rfl) ?_ ?_
  · simp only [Mono.OpGoals, and_true]
    refine ⟨?_, ?_, ?_, ?_, ?_, ?_, ?_, ?_, ?_, ?_, ?_, ?_, ?_, ?_, ?_, ?_, ?_, ?_, ?_, ?_⟩
    · intro a u hbu hsu hdu
      have cs := (hbu.cell (p := ⟨gs, 0, none⟩) ls).trans cs; have cn0 := (hbu.cell (p := ⟨gn, 0, none⟩) ln).trans cn0; have cn1 := (hbu.cell (p := ⟨gn, 1, none⟩) ln).trans cn1
      refine Mono.if_want rfl ?_
      exact Mono.ok_move (.tmp 0) rfl (hsu 0 (by decide))
    · intro a u hbu hsu hdu
      have cs := (hbu.cell (p := ⟨gs, 0, none⟩) ls).trans cs; have cn0 := (hbu.cell (p := ⟨gn, 0, none⟩) ln).trans cn0; have cn1 := (hbu.cell (p := ⟨gn, 1, none⟩) ln).trans cn1
      refine Mono.if_want rfl ?_
      have z2 : a.eval (.tmp 2) = .pointer (some ⟨gs, 0, none⟩) := hsu 2 (by decide)
      simp [Act.eval] at z2
      have z14 : a.eval (.tmp 14) = .int .i64 0 := Mono.dep_at hdu (i := 0) (d := 14) rfl rfl rfl
      simp [Act.eval] at z14
      exact Mono.ok_val (.pointer (some ⟨gs, 0, none⟩)) (by simp [execOp, z2, z14, go_sem, cs, cn0, cn1, kw0, kw1]) rfl
    · intro a u hbu hsu hdu
      have cs := (hbu.cell (p := ⟨gs, 0, none⟩) ls).trans cs; have cn0 := (hbu.cell (p := ⟨gn, 0, none⟩) ln).trans cn0; have cn1 := (hbu.cell (p := ⟨gn, 1, none⟩) ln).trans cn1
      refine Mono.if_want rfl ?_
      have z15 : a.eval (.tmp 15) = .pointer (some ⟨gs, 0, none⟩) := Mono.dep_at hdu (i := 1) (d := 15) rfl rfl rfl
      simp [Act.eval] at z15
      exact Mono.ok_val (.int .i64 st) (by simp [execOp, z15, go_sem, cs, cn0, cn1, kw0, kw1]) rfl
    · intro a u hbu hsu hdu
      have cs := (hbu.cell (p := ⟨gs, 0, none⟩) ls).trans cs; have cn0 := (hbu.cell (p := ⟨gn, 0, none⟩) ln).trans cn0; have cn1 := (hbu.cell (p := ⟨gn, 1, none⟩) ln).trans cn1
      refine Mono.if_want rfl ?_
      exact Mono.ok_move (.tmp 1) rfl (hsu 1 (by decide))
    · intro a u hbu hsu hdu
      have cs := (hbu.cell (p := ⟨gs, 0, none⟩) ls).trans cs; have cn0 := (hbu.cell (p := ⟨gn, 0, none⟩) ln).trans cn0; have cn1 := (hbu.cell (p := ⟨gn, 1, none⟩) ln).trans cn1
      refine Mono.if_want rfl ?_
      exact Mono.ok_move (.tmp 0) rfl (hsu 0 (by decide))
    · intro a u hbu hsu hdu
      have cs := (hbu.cell (p := ⟨gs, 0, none⟩) ls).trans cs; have cn0 := (hbu.cell (p := ⟨gn, 0, none⟩) ln).trans cn0; have cn1 := (hbu.cell (p := ⟨gn, 1, none⟩) ln).trans cn1
      refine Mono.if_want rfl ?_
      have z3 : a.eval (.tmp 3) = .pointer (some ⟨gn, 0, none⟩) := hsu 3 (by decide)
      simp [Act.eval] at z3
      have z18 : a.eval (.tmp 18) = .int .i64 0 := Mono.dep_at hdu (i := 4) (d := 18) rfl rfl rfl
      simp [Act.eval] at z18
      exact Mono.ok_val (.pointer (some ⟨gn, 0, none⟩)) (by simp [execOp, z3, z18, go_sem, cs, cn0, cn1, kw0, kw1]) rfl
    · intro a u hbu hsu hdu
      have cs := (hbu.cell (p := ⟨gs, 0, none⟩) ls).trans cs; have cn0 := (hbu.cell (p := ⟨gn, 0, none⟩) ln).trans cn0; have cn1 := (hbu.cell (p := ⟨gn, 1, none⟩) ln).trans cn1
      refine Mono.if_want rfl ?_
      have z19 : a.eval (.tmp 19) = .pointer (some ⟨gn, 0, none⟩) := Mono.dep_at hdu (i := 5) (d := 19) rfl rfl rfl
      simp [Act.eval] at z19
      exact Mono.ok_val (.string na) (by simp [execOp, z19, go_sem, cs, cn0, cn1, kw0, kw1]) rfl
    · intro a u hbu hsu hdu
      have cs := (hbu.cell (p := ⟨gs, 0, none⟩) ls).trans cs; have cn0 := (hbu.cell (p := ⟨gn, 0, none⟩) ln).trans cn0; have cn1 := (hbu.cell (p := ⟨gn, 1, none⟩) ln).trans cn1
      refine Mono.if_want rfl ?_
      exact Mono.ok_move (.tmp 0) rfl (hsu 0 (by decide))
    · intro a u hbu hsu hdu
      have cs := (hbu.cell (p := ⟨gs, 0, none⟩) ls).trans cs; have cn0 := (hbu.cell (p := ⟨gn, 0, none⟩) ln).trans cn0; have cn1 := (hbu.cell (p := ⟨gn, 1, none⟩) ln).trans cn1
      refine Mono.if_want rfl ?_
      have z21 : a.eval (.tmp 21) = .int .i64 0 := Mono.dep_at hdu (i := 7) (d := 21) rfl rfl rfl
      simp [Act.eval] at z21
      exact Mono.ok_val (.int .i64 1) (by simp [execOp, z21, go_sem, cs, cn0, cn1, kw0, kw1]) rfl
    · intro a u hbu hsu hdu
      have cs := (hbu.cell (p := ⟨gs, 0, none⟩) ls).trans cs; have cn0 := (hbu.cell (p := ⟨gn, 0, none⟩) ln).trans cn0; have cn1 := (hbu.cell (p := ⟨gn, 1, none⟩) ln).trans cn1
      refine Mono.if_want rfl ?_
      have z3 : a.eval (.tmp 3) = .pointer (some ⟨gn, 0, none⟩) := hsu 3 (by decide)
      simp [Act.eval] at z3
      have z22 : a.eval (.tmp 22) = .int .i64 1 := Mono.dep_at hdu (i := 8) (d := 22) rfl rfl rfl
      simp [Act.eval] at z22
      exact Mono.ok_val (.pointer (some ⟨gn, 1, none⟩)) (by simp [execOp, z3, z22, go_sem, cs, cn0, cn1, kw0, kw1]) rfl
    · intro a u hbu hsu hdu
      have cs := (hbu.cell (p := ⟨gs, 0, none⟩) ls).trans cs; have cn0 := (hbu.cell (p := ⟨gn, 0, none⟩) ln).trans cn0; have cn1 := (hbu.cell (p := ⟨gn, 1, none⟩) ln).trans cn1
      refine Mono.if_want rfl ?_
      have z23 : a.eval (.tmp 23) = .pointer (some ⟨gn, 1, none⟩) := Mono.dep_at hdu (i := 9) (d := 23) rfl rfl rfl
      simp [Act.eval] at z23
      exact Mono.ok_val (.string nb) (by simp [execOp, z23, go_sem, cs, cn0, cn1, kw0, kw1]) rfl
    · intro a u hbu hsu hdu
      have cs := (hbu.cell (p := ⟨gs, 0, none⟩) ls).trans cs; have cn0 := (hbu.cell (p := ⟨gn, 0, none⟩) ln).trans cn0; have cn1 := (hbu.cell (p := ⟨gn, 1, none⟩) ln).trans cn1
      refine Mono.if_want rfl ?_
      have z20 : a.eval (.tmp 20) = .string na := Mono.dep_at hdu (i := 6) (d := 20) rfl rfl rfl
      have z24 : a.eval (.tmp 24) = .string nb := Mono.dep_at hdu (i := 10) (d := 24) rfl rfl rfl
      simp [Act.eval] at z20 z24
      exact Mono.ok_call 12 _ _ rfl #[.string na, .string nb] (by simp [execOp, z20, z24, go_sem]) ((PWIN.out u).mono (fun e x ⟨h1, h2⟩ => ⟨_, h1, h2, rfl⟩))
    · intro a u hbu hsu hdu
      have cs := (hbu.cell (p := ⟨gs, 0, none⟩) ls).trans cs; have cn0 := (hbu.cell (p := ⟨gn, 0, none⟩) ln).trans cn0; have cn1 := (hbu.cell (p := ⟨gn, 1, none⟩) ln).trans cn1
      refine Mono.if_want rfl ?_
      have z16 : a.eval (.tmp 16) = .int .i64 st := Mono.dep_at hdu (i := 2) (d := 16) rfl rfl rfl
      have z17 : a.eval (.tmp 17) = .int .i64 ev := Mono.dep_at hdu (i := 3) (d := 17) rfl rfl rfl
      have z25 : a.eval (.tmp 25) = .bool wn := Mono.dep_at hdu (i := 11) (d := 25) rfl rfl rfl
      simp [Act.eval] at z16 z17 z25
      have hws : w.heap.size ≤ u.heap.size := hbu.size
      exact Mono.ok_call 8 _ _ rfl #[.int .i64 st, .int .i64 ev, .bool wn] (by simp [execOp, z16, z17, z25, go_sem]) ((PSTEP.out u).mono (fun e x ⟨h1, d, h2, h3⟩ => ⟨_, h2, h1, d, rfl, h3.mono hws⟩))
    · intro a u hbu hsu hdu
      have cs := (hbu.cell (p := ⟨gs, 0, none⟩) ls).trans cs; have cn0 := (hbu.cell (p := ⟨gn, 0, none⟩) ln).trans cn0; have cn1 := (hbu.cell (p := ⟨gn, 1, none⟩) ln).trans cn1
      refine Mono.if_want rfl ?_
      exact Mono.ok_move (.tmp 26) rfl (Mono.dep_at hdu (i := 12) (d := 26) rfl rfl rfl)
    · intro a u hbu hsu hdu
      have cs := (hbu.cell (p := ⟨gs, 0, none⟩) ls).trans cs; have cn0 := (hbu.cell (p := ⟨gn, 0, none⟩) ln).trans cn0; have cn1 := (hbu.cell (p := ⟨gn, 1, none⟩) ln).trans cn1
      refine Mono.if_want rfl ?_
      obtain ⟨d, e1, hd⟩ : (tupP w.heap.size n xs).R (a.eval (.tmp 13)) u := Mono.dep_at hdu (i := 13) (d := 13) rfl rfl rfl
      simp [Act.eval] at e1
      exact Mono.ok_val (.int .i64 n) (by simp [execOp, e1, go_sem]) rfl
    · intro a u hbu hsu hdu
      have cs := (hbu.cell (p := ⟨gs, 0, none⟩) ls).trans cs; have cn0 := (hbu.cell (p := ⟨gn, 0, none⟩) ln).trans cn0; have cn1 := (hbu.cell (p := ⟨gn, 1, none⟩) ln).trans cn1
      refine Mono.if_want rfl ?_
      obtain ⟨d, e1, hd⟩ : (tupP w.heap.size n xs).R (a.eval (.tmp 13)) u := Mono.dep_at hdu (i := 13) (d := 13) rfl rfl rfl
      simp [Act.eval] at e1
      exact Mono.ok_val d (by simp [execOp, e1, go_sem]) hd
    · intro a u hbu hsu hdu
      have cs := (hbu.cell (p := ⟨gs, 0, none⟩) ls).trans cs; have cn0 := (hbu.cell (p := ⟨gn, 0, none⟩) ln).trans cn0; have cn1 := (hbu.cell (p := ⟨gn, 1, none⟩) ln).trans cn1
      refine Mono.if_want rfl ?_
      obtain ⟨d, e1, hd⟩ : (tupP w.heap.size n xs).R (a.eval (.tmp 13)) u := Mono.dep_at hdu (i := 13) (d := 13) rfl rfl rfl
      simp [Act.eval] at e1
      exact Mono.ok_val (.int .i64 0) (by simp [execOp, e1, go_sem]) rfl
    · intro a u hbu hsu hdu
      have cs := (hbu.cell (p := ⟨gs, 0, none⟩) ls).trans cs; have cn0 := (hbu.cell (p := ⟨gn, 0, none⟩) ln).trans cn0; have cn1 := (hbu.cell (p := ⟨gn, 1, none⟩) ln).trans cn1
      refine Mono.if_want rfl ?_
      exact Mono.ok_assign (.tmp 27) rfl (Mono.dep_at hdu (i := 14) (d := 27) rfl rfl rfl)
    · intro a u hbu hsu hdu
      have cs := (hbu.cell (p := ⟨gs, 0, none⟩) ls).trans cs; have cn0 := (hbu.cell (p := ⟨gn, 0, none⟩) ln).trans cn0; have cn1 := (hbu.cell (p := ⟨gn, 1, none⟩) ln).trans cn1
      refine Mono.if_want rfl ?_
      exact Mono.ok_assign (.tmp 28) rfl (Mono.dep_at hdu (i := 15) (d := 28) rfl rfl rfl)
    · intro a u hbu hsu hdu
      have cs := (hbu.cell (p := ⟨gs, 0, none⟩) ls).trans cs; have cn0 := (hbu.cell (p := ⟨gn, 0, none⟩) ln).trans cn0; have cn1 := (hbu.cell (p := ⟨gn, 1, none⟩) ln).trans cn1
      refine Mono.if_want rfl ?_
      exact Mono.ok_assign (.tmp 29) rfl (Mono.dep_at hdu (i := 16) (d := 29) rfl rfl rfl)
  intro u hu
  simp only [Mono.Fin]
  rintro _ rfl _ rfl _ rfl _ rfl _ rfl _ rfl _ rfl _ rfl _ rfl _ rfl _ rfl _ rfl v26 h26 v13 h13 _ rfl v28 h28 _ rfl _ rfl v10 h10 _ rfl
  simp [Act.put]
  have HP2 := Lib.hid (HH.out.below hu)
  have hat2 := HP2.out.st
  have HR2 := Lib.hid (rowI_out h10)
  have HU := Lib.hid hu
  obtain ⟨p10, c10, e10, _⟩ := id HR2.out.reads
  subst e10
  clear cs cn0 cn1 h13 h26 h28 h10 hu
  go_wp2_with (first
    | ((with_reducible refine wpl_storeC rfl 3 (.tmp 34) (.tmp 33) rfl rfl gs 0 33 (#[.int .i64 q.s0, .int .i64 q.s1] : Array Value) ((#[.int .i64 q.s0, .int .i64 q.s1] : Array Value).set! 0 (.int .i64 n)) (.int .i64 n) ?_ ?_ hat2 ?_ (by kernel_rfl) rfl rfl ?_); rfl; rfl; (show (0 : Nat) < 2; decide); go_must (intro u2 hat3 hg3; have HP3 := Lib.hid (HP2.out.setSt 0 (by decide) n hat3 hg3); have HG3 := Lib.hid (And.intro hg3 hat2); clear hat3 hg3 hat2)))
  have HR3 := Lib.hid (show Row .i64 3 w.heap.size u2 (.slice p10 xs.length c10) xs by
    obtain ⟨hg3, hat2⟩ := HG3.out
    refine HR2.out.kept hg3 ?_
    cases hb : (Value.slice p10 xs.length c10).ownBlock with
    | none => exact .inl rfl
    | some g =>
      refine .inr (fun e => ?_)
      obtain ⟨cur, hc⟩ := row_at HR2.out hb
      cases e
      exact at_ne' hat2 hc (by decide) rfl)
  obtain ⟨q', hq'⟩ : ∃ q', q.setSt 0 n = q' := ⟨_, rfl⟩
  have HPL := Lib.hid (show ∀ k, k ≤ xs.length → ∀ j, j < 4 → (((xs.take k).foldl (doOne 0) q').x j).length ≤ 90 + k by
    intro k
    induction k with
    | zero => intro _ j _; rw [← hq', List.take_zero, List.foldl_nil, x_setSt]; exact HSH.out j
    | succ k ih =>
      intro hk j hj
      have hget : xs[k]? = some (xs[k]'(by omega)) := List.getElem?_eq_getElem (by omega)
      rw [doOne_take 0 q' xs k _ hget]
      exact doOne_len 0 (by decide) _ _ (90 + k) (ih (by omega)) j hj)
  rw [hq'] at HQ HP3
  have HB3 := Lib.hid (show Below B w u2 from below_grown (HU.out.mono HH.out.size) HG3.out.1 (Nat.le_trans HH.out.size HU.out.size) HH.out.base.1)
  clear hq'
  go_loopw [12] (fun j wr => ∃ (k : Nat) (v : Nat → Value), j = .int .i64 k ∧ k ≤ xs.length ∧ PW B wr gs gn gt gm na nb ((xs.take k).foldl (doOne 0) q') v ∧ Row .i64 3 w.heap.size wr (.slice p10 xs.length c10) xs ∧ (∀ i, i < 4 → ∀ g, blk (v i) = some g → (Value.slice p10 xs.length c10).ownBlock ≠ some g) ∧ Below B w wr) (fun j _ => xs.length - (intOf j).toNat)
  case atStart => exact ⟨0, v, rfl, by omega, HP3.out, HR3.out, fun i hi g hg e => (by have h1 := ((HH.out.own i hi).lt hg).2.1; have h2 := (HR3.out.lt _ e).1; omega), HB3.out⟩
  case round =>
    obtain ⟨k, v, rfl, hk, hP, hr, hne, hbl⟩ := hrel
    have hR := And.intro hr hne
    by_cases hlt : k < xs.length
    · obtain ⟨d, hd⟩ : ∃ d, xs[k]? = some d := ⟨_, List.getElem?_eq_getElem hlt⟩
      obtain ⟨g10, rfl, _, _, _⟩ := hr.form (by omega)
      have hcd := (hr.cell k hlt).1
      rw [List.getD_eq_getElem?_getD, hd] at hcd
      simp only [Option.getD_some] at hcd
      have HD := Lib.hid hd
      have hlt' : (k : Int) < xs.length := by omega
      clear hd hr hne
      have hdc : d = 2 ∨ d = 4 ∨ d = 6 ∨ d = 7 ∨ ((d == 2) = false ∧ (d == 4) = false ∧ (d == 6) = false ∧ (d == 7) = false) := by
        by_cases h1 : d = 2
        · exact .inl h1
        by_cases h2 : d = 4
        · exact .inr (.inl h2)
        by_cases h3 : d = 6
        · exact .inr (.inr (.inl h3))
        by_cases h4 : d = 7
        · exact .inr (.inr (.inr (.inl h4)))
        exact .inr (.inr (.inr (.inr ⟨by simpa using h1, by simpa using h2, by simpa using h3, by simpa using h4⟩)))
      rcases hdc with hd | hd | hd | hd | ⟨d1, d2, d3, d4⟩
      next =>
        · subst hd
          have hc := (hP.own 3 (by decide)).form
          obtain ⟨pj, kj, evj⟩ := hc
          have hoj := Lib.hid (hP.own 3 (by decide))
          obtain ⟨vj, hvj⟩ : ∃ vj, v 3 = vj := ⟨_, rfl⟩
          rw [hvj] at hoj
          have ct := hP.th.cell 1
          simp at ct
          rw [hvj] at ct
          have HPP := Lib.hid hP
          have HVJ := Lib.hid hvj
          have HBL := Lib.hid hbl
          have HR := Lib.hid hR
          clear hP evj hvj hbl hR
          go_wp2_with (first
            | ((with_reducible refine wpl_build1 rfl 2 rfl ?_); go_must (intro u1 hat1 hb1; have HP1 := Lib.hid (HPP.out.below hb1); have HR1 := Lib.hid (HR.out.1.below hb1); obtain ⟨x, u2, hrun, ho2, hg2, hw2, h12⟩ := (hoj.out.below hb1).append 2 wr.heap.size hat1 HP1.out.size (by have := HPL.out k hk 3 (by decide); omega); have HRUN := Lib.hid hrun; have HO2 := Lib.hid (And.intro ho2 (And.intro hg2 (And.intro hw2 hb1))); have hT2 : At u2 gt 34 (#[v 2, v 3] : Array Value) := (by have hh := HP1.out.th; have hne := blk_ne (hoj.out.below hb1) hh (by decide); unfold At at hh ⊢; rw [hg2.block _ (At.lt hh) (fun e => hne e.symm)]; exact hh); clear hrun ho2 hg2 hw2 hat1 hb1 ct))
            | ((with_reducible refine wpl_appendV rfl 22 (.tmp 52) (.tmp 53) rfl vj (.slice (some ⟨wr.heap.size, 0, none⟩) 1 1) x u2 ?_ ?_ HRUN.out ?_); rfl; rfl)
            | ((with_reducible refine wpl_storeC rfl 22 (.tmp 55) (.tmp 54) rfl rfl gt 1 34 (#[v 2, v 3] : Array Value) ((#[v 2, v 3] : Array Value).set! 1 x) x ?_ ?_ hT2 ?_ (by kernel_rfl) h12 rfl ?_); rfl; rfl; (show (1 : Nat) < 2; decide); go_must (intro u3 hat3 hg3; have HF := Lib.hid (And.intro hat3 hg3); clear hat3 hg3 hT2)))
          go_roundw
          case rel =>
            obtain ⟨o2, g2, w2, b1⟩ := HO2.out
            obtain ⟨a3, g3⟩ := HF.out
            have hP1 := HP1.out
            have hvv := HVJ.out
            have hnew := hP1.setX 3 (by decide) rfl (((xs.take k).foldl (doOne 0) q').x 3 ++ [2]) x o2 (by rw [hvv]; exact g2) (by rw [hvv]; exact w2) a3 g3
            have hs1 := b1.size
            have hs2 := g2.size
            refine ⟨k + 1, updV v 3 x, by go_num, by omega, ?_, ?_, ?_, ?_⟩
            · rw [doOne_take 0 q' xs k _ HD.out]
              exact hnew
            · refine (row_blk HR1.out g2 (fun g hg => ?_)).kept g3 (.inr ?_)
              · exact HR.out.2 3 (by decide) g (by rw [hvv]; exact hg)
              · intro e
                obtain ⟨cur, hc⟩ := row_at (row_blk HR1.out g2 (fun g hg => HR.out.2 3 (by decide) g (by rw [hvv]; exact hg))) e
                have hh := hP1.th
                have hne := blk_ne (hoj.out.below b1) hh (by decide)
                have hh2 : At u2 gt 34 _ := (by unfold At at hh ⊢; rw [g2.block _ (At.lt hh) (fun e => hne e.symm)]; exact hh)
                exact at_ne' hh2 hc (by decide) rfl
            · intro i hi g hg
              by_cases ei : i = 3
              · subst ei
                rw [show updV v 3 x 3 = x from if_pos rfl] at hg
                rcases w2 with e | e
                · exact HR.out.2 3 (by decide) g (by rw [hvv, ← e]; exact hg)
                · rw [e] at hg
                  cases hg
                  intro e2
                  have := (HR1.out.lt _ e2).2
                  omega
              · rw [show updV v 3 x i = v i from if_neg ei] at hg
                exact HR.out.2 i hi g hg
            · refine below_grown ((HBL.out.trans (b1.mono HPP.out.size)).grown g2 (Nat.le_trans HPP.out.size hs1) (fun g hg => (hoj.out.lt hg).1)) g3 (Nat.le_trans (Nat.le_trans HPP.out.size hs1) hs2) hP1.base.2.2.1
          case measure => simp [intOf]; omega
      next =>
        · subst hd
          have hc := (hP.own 1 (by decide)).form
          obtain ⟨pj, kj, evj⟩ := hc
          have hoj := Lib.hid (hP.own 1 (by decide))
          obtain ⟨vj, hvj⟩ : ∃ vj, v 1 = vj := ⟨_, rfl⟩
          rw [hvj] at hoj
          have ct := hP.mi.cell 1
          simp at ct
          rw [hvj] at ct
          have HPP := Lib.hid hP
          have HVJ := Lib.hid hvj
          have HBL := Lib.hid hbl
          have HR := Lib.hid hR
          clear hP evj hvj hbl hR
          go_wp2_with (first
            | ((with_reducible refine wpl_build1 rfl 6 rfl ?_); go_must (intro u1 hat1 hb1; have HP1 := Lib.hid (HPP.out.below hb1); have HR1 := Lib.hid (HR.out.1.below hb1); obtain ⟨x, u2, hrun, ho2, hg2, hw2, h12⟩ := (hoj.out.below hb1).append 6 wr.heap.size hat1 HP1.out.size (by have := HPL.out k hk 1 (by decide); omega); have HRUN := Lib.hid hrun; have HO2 := Lib.hid (And.intro ho2 (And.intro hg2 (And.intro hw2 hb1))); have hT2 : At u2 gm 34 (#[v 0, v 1] : Array Value) := (by have hh := HP1.out.mi; have hne := blk_ne (hoj.out.below hb1) hh (by decide); unfold At at hh ⊢; rw [hg2.block _ (At.lt hh) (fun e => hne e.symm)]; exact hh); clear hrun ho2 hg2 hw2 hat1 hb1 ct))
            | ((with_reducible refine wpl_appendV rfl 22 (.tmp 63) (.tmp 64) rfl vj (.slice (some ⟨wr.heap.size, 0, none⟩) 1 1) x u2 ?_ ?_ HRUN.out ?_); rfl; rfl)
            | ((with_reducible refine wpl_storeC rfl 22 (.tmp 66) (.tmp 65) rfl rfl gm 1 34 (#[v 0, v 1] : Array Value) ((#[v 0, v 1] : Array Value).set! 1 x) x ?_ ?_ hT2 ?_ (by kernel_rfl) h12 rfl ?_); rfl; rfl; (show (1 : Nat) < 2; decide); go_must (intro u3 hat3 hg3; have HF := Lib.hid (And.intro hat3 hg3); clear hat3 hg3 hT2)))
          go_roundw
          case rel =>
            obtain ⟨o2, g2, w2, b1⟩ := HO2.out
            obtain ⟨a3, g3⟩ := HF.out
            have hP1 := HP1.out
            have hvv := HVJ.out
            have hnew := hP1.setX 1 (by decide) rfl (((xs.take k).foldl (doOne 0) q').x 1 ++ [6]) x o2 (by rw [hvv]; exact g2) (by rw [hvv]; exact w2) a3 g3
            have hs1 := b1.size
            have hs2 := g2.size
            refine ⟨k + 1, updV v 1 x, by go_num, by omega, ?_, ?_, ?_, ?_⟩
            · rw [doOne_take 0 q' xs k _ HD.out]
              exact hnew
            · refine (row_blk HR1.out g2 (fun g hg => ?_)).kept g3 (.inr ?_)
              · exact HR.out.2 1 (by decide) g (by rw [hvv]; exact hg)
              · intro e
                obtain ⟨cur, hc⟩ := row_at (row_blk HR1.out g2 (fun g hg => HR.out.2 1 (by decide) g (by rw [hvv]; exact hg))) e
                have hh := hP1.mi
                have hne := blk_ne (hoj.out.below b1) hh (by decide)
                have hh2 : At u2 gm 34 _ := (by unfold At at hh ⊢; rw [g2.block _ (At.lt hh) (fun e => hne e.symm)]; exact hh)
                exact at_ne' hh2 hc (by decide) rfl
            · intro i hi g hg
              by_cases ei : i = 1
              · subst ei
                rw [show updV v 1 x 1 = x from if_pos rfl] at hg
                rcases w2 with e | e
                · exact HR.out.2 1 (by decide) g (by rw [hvv, ← e]; exact hg)
                · rw [e] at hg
                  cases hg
                  intro e2
                  have := (HR1.out.lt _ e2).2
                  omega
              · rw [show updV v 1 x i = v i from if_neg ei] at hg
                exact HR.out.2 i hi g hg
            · refine below_grown ((HBL.out.trans (b1.mono HPP.out.size)).grown g2 (Nat.le_trans HPP.out.size hs1) (fun g hg => (hoj.out.lt hg).1)) g3 (Nat.le_trans (Nat.le_trans HPP.out.size hs1) hs2) hP1.base.2.2.2
          case measure => simp [intOf]; omega
      next =>
        · subst hd
          have hc := (hP.own 3 (by decide)).form
          obtain ⟨pj, kj, evj⟩ := hc
          have hoj := Lib.hid (hP.own 3 (by decide))
          obtain ⟨vj, hvj⟩ : ∃ vj, v 3 = vj := ⟨_, rfl⟩
          rw [hvj] at hoj
          have ct := hP.th.cell 1
          simp at ct
          rw [hvj] at ct
          have HPP := Lib.hid hP
          have HVJ := Lib.hid hvj
          have HBL := Lib.hid hbl
          have HR := Lib.hid hR
          clear hP evj hvj hbl hR
          go_wp2_with (first
            | ((with_reducible refine wpl_build1 rfl 8 rfl ?_); go_must (intro u1 hat1 hb1; have HP1 := Lib.hid (HPP.out.below hb1); have HR1 := Lib.hid (HR.out.1.below hb1); obtain ⟨x, u2, hrun, ho2, hg2, hw2, h12⟩ := (hoj.out.below hb1).append 8 wr.heap.size hat1 HP1.out.size (by have := HPL.out k hk 3 (by decide); omega); have HRUN := Lib.hid hrun; have HO2 := Lib.hid (And.intro ho2 (And.intro hg2 (And.intro hw2 hb1))); have hT2 : At u2 gt 34 (#[v 2, v 3] : Array Value) := (by have hh := HP1.out.th; have hne := blk_ne (hoj.out.below hb1) hh (by decide); unfold At at hh ⊢; rw [hg2.block _ (At.lt hh) (fun e => hne e.symm)]; exact hh); clear hrun ho2 hg2 hw2 hat1 hb1 ct))
            | ((with_reducible refine wpl_appendV rfl 22 (.tmp 74) (.tmp 75) rfl vj (.slice (some ⟨wr.heap.size, 0, none⟩) 1 1) x u2 ?_ ?_ HRUN.out ?_); rfl; rfl)
            | ((with_reducible refine wpl_storeC rfl 22 (.tmp 77) (.tmp 76) rfl rfl gt 1 34 (#[v 2, v 3] : Array Value) ((#[v 2, v 3] : Array Value).set! 1 x) x ?_ ?_ hT2 ?_ (by kernel_rfl) h12 rfl ?_); rfl; rfl; (show (1 : Nat) < 2; decide); go_must (intro u3 hat3 hg3; have HF := Lib.hid (And.intro hat3 hg3); clear hat3 hg3 hT2)))
          go_roundw
          case rel =>
            obtain ⟨o2, g2, w2, b1⟩ := HO2.out
            obtain ⟨a3, g3⟩ := HF.out
            have hP1 := HP1.out
            have hvv := HVJ.out
            have hnew := hP1.setX 3 (by decide) rfl (((xs.take k).foldl (doOne 0) q').x 3 ++ [8]) x o2 (by rw [hvv]; exact g2) (by rw [hvv]; exact w2) a3 g3
            have hs1 := b1.size
            have hs2 := g2.size
            refine ⟨k + 1, updV v 3 x, by go_num, by omega, ?_, ?_, ?_, ?_⟩
            · rw [doOne_take 0 q' xs k _ HD.out]
              exact hnew
            · refine (row_blk HR1.out g2 (fun g hg => ?_)).kept g3 (.inr ?_)
              · exact HR.out.2 3 (by decide) g (by rw [hvv]; exact hg)
              · intro e
                obtain ⟨cur, hc⟩ := row_at (row_blk HR1.out g2 (fun g hg => HR.out.2 3 (by decide) g (by rw [hvv]; exact hg))) e
                have hh := hP1.th
                have hne := blk_ne (hoj.out.below b1) hh (by decide)
                have hh2 : At u2 gt 34 _ := (by unfold At at hh ⊢; rw [g2.block _ (At.lt hh) (fun e => hne e.symm)]; exact hh)
                exact at_ne' hh2 hc (by decide) rfl
            · intro i hi g hg
              by_cases ei : i = 3
              · subst ei
                rw [show updV v 3 x 3 = x from if_pos rfl] at hg
                rcases w2 with e | e
                · exact HR.out.2 3 (by decide) g (by rw [hvv, ← e]; exact hg)
                · rw [e] at hg
                  cases hg
                  intro e2
                  have := (HR1.out.lt _ e2).2
                  omega
              · rw [show updV v 3 x i = v i from if_neg ei] at hg
                exact HR.out.2 i hi g hg
            · refine below_grown ((HBL.out.trans (b1.mono HPP.out.size)).grown g2 (Nat.le_trans HPP.out.size hs1) (fun g hg => (hoj.out.lt hg).1)) g3 (Nat.le_trans (Nat.le_trans HPP.out.size hs1) hs2) hP1.base.2.2.1
          case measure => simp [intOf]; omega
      next =>
        · subst hd
          have hc := (hP.own 1 (by decide)).form
          obtain ⟨pj, kj, evj⟩ := hc
          have hoj := Lib.hid (hP.own 1 (by decide))
          obtain ⟨vj, hvj⟩ : ∃ vj, v 1 = vj := ⟨_, rfl⟩
          rw [hvj] at hoj
          have ct := hP.mi.cell 1
          simp at ct
          rw [hvj] at ct
          have HPP := Lib.hid hP
          have HVJ := Lib.hid hvj
          have HBL := Lib.hid hbl
          have HR := Lib.hid hR
          clear hP evj hvj hbl hR
          go_wp2_with (first
            | ((with_reducible refine wpl_build1 rfl 7 rfl ?_); go_must (intro u1 hat1 hb1; have HP1 := Lib.hid (HPP.out.below hb1); have HR1 := Lib.hid (HR.out.1.below hb1); obtain ⟨x, u2, hrun, ho2, hg2, hw2, h12⟩ := (hoj.out.below hb1).append 7 wr.heap.size hat1 HP1.out.size (by have := HPL.out k hk 1 (by decide); omega); have HRUN := Lib.hid hrun; have HO2 := Lib.hid (And.intro ho2 (And.intro hg2 (And.intro hw2 hb1))); have hT2 : At u2 gm 34 (#[v 0, v 1] : Array Value) := (by have hh := HP1.out.mi; have hne := blk_ne (hoj.out.below hb1) hh (by decide); unfold At at hh ⊢; rw [hg2.block _ (At.lt hh) (fun e => hne e.symm)]; exact hh); clear hrun ho2 hg2 hw2 hat1 hb1 ct))
            | ((with_reducible refine wpl_appendV rfl 22 (.tmp 85) (.tmp 86) rfl vj (.slice (some ⟨wr.heap.size, 0, none⟩) 1 1) x u2 ?_ ?_ HRUN.out ?_); rfl; rfl)
            | ((with_reducible refine wpl_storeC rfl 22 (.tmp 88) (.tmp 87) rfl rfl gm 1 34 (#[v 0, v 1] : Array Value) ((#[v 0, v 1] : Array Value).set! 1 x) x ?_ ?_ hT2 ?_ (by kernel_rfl) h12 rfl ?_); rfl; rfl; (show (1 : Nat) < 2; decide); go_must (intro u3 hat3 hg3; have HF := Lib.hid (And.intro hat3 hg3); clear hat3 hg3 hT2)))
          go_roundw
          case rel =>
            obtain ⟨o2, g2, w2, b1⟩ := HO2.out
            obtain ⟨a3, g3⟩ := HF.out
            have hP1 := HP1.out
            have hvv := HVJ.out
            have hnew := hP1.setX 1 (by decide) rfl (((xs.take k).foldl (doOne 0) q').x 1 ++ [7]) x o2 (by rw [hvv]; exact g2) (by rw [hvv]; exact w2) a3 g3
            have hs1 := b1.size
            have hs2 := g2.size
            refine ⟨k + 1, updV v 1 x, by go_num, by omega, ?_, ?_, ?_, ?_⟩
            · rw [doOne_take 0 q' xs k _ HD.out]
              exact hnew
            · refine (row_blk HR1.out g2 (fun g hg => ?_)).kept g3 (.inr ?_)
              · exact HR.out.2 1 (by decide) g (by rw [hvv]; exact hg)
              · intro e
                obtain ⟨cur, hc⟩ := row_at (row_blk HR1.out g2 (fun g hg => HR.out.2 1 (by decide) g (by rw [hvv]; exact hg))) e
                have hh := hP1.mi
                have hne := blk_ne (hoj.out.below b1) hh (by decide)
                have hh2 : At u2 gm 34 _ := (by unfold At at hh ⊢; rw [g2.block _ (At.lt hh) (fun e => hne e.symm)]; exact hh)
                exact at_ne' hh2 hc (by decide) rfl
            · intro i hi g hg
              by_cases ei : i = 1
              · subst ei
                rw [show updV v 1 x 1 = x from if_pos rfl] at hg
                rcases w2 with e | e
                · exact HR.out.2 1 (by decide) g (by rw [hvv, ← e]; exact hg)
                · rw [e] at hg
                  cases hg
                  intro e2
                  have := (HR1.out.lt _ e2).2
                  omega
              · rw [show updV v 1 x i = v i from if_neg ei] at hg
                exact HR.out.2 i hi g hg
            · refine below_grown ((HBL.out.trans (b1.mono HPP.out.size)).grown g2 (Nat.le_trans HPP.out.size hs1) (fun g hg => (hoj.out.lt hg).1)) g3 (Nat.le_trans (Nat.le_trans HPP.out.size hs1) hs2) hP1.base.2.2.2
          case measure => simp [intOf]; omega
      next =>
        · have HPP := Lib.hid (And.intro hP (And.intro hR hbl))
          clear hP hR hbl
          go_wp2_with fail
          go_roundw
          case rel =>
            obtain ⟨p1, p2, p3⟩ := HPP.out
            refine ⟨k + 1, v, by go_num, by omega, ?_, p2.1, p2.2, p3⟩
            rw [doOne_take 0 q' xs k _ HD.out]
            unfold doOne
            rw [if_neg (by simpa using d1), if_neg (by simpa using d2), if_neg (by simpa using d3), if_neg (by simpa using d4)]
            exact p1
          case measure => simp [intOf]; omega
    · obtain rfl : k = xs.length := by omega
      have HPP := Lib.hid (And.intro hP hbl)
      clear hP hR hbl hr hne hlt
      go_wp2_with fail
      go_ret
      refine ⟨rfl, ⟨v, ?_⟩, HPP.out.2⟩
      have := HPP.out.1
      rw [List.take_length] at this
      rw [HQ.out]
      exact this
set_option maxRecDepth 100000 in
set_option maxHeartbeats 3200000 in
theorem side1 {B : Nat} {w : World} {gs gn gt gm : Nat} {na nb : ByteArray} {q : Q} {v : Nat → Value} (hP : PW B w gs gn gt gm na nb q v) (w0 : Bool) (hw : winB nb na = winOf w0 1) (ha : na.size ≤ 9223372036854775807) (hb : nb.size ≤ 9223372036854775807) (ev : Int) (he : errF (q.st 1) ev = 0) (hsh : shortQ q = true) :
    Calls Try.prog 14 #[.int .i64 1, .int .i64 ev, .pointer (some ⟨gs, 0, none⟩), .pointer (some ⟨gn, 0, none⟩), .pointer (some ⟨gt, 0, none⟩), .pointer (some ⟨gm, 0, none⟩)] w fun e w' => e = .returned (.bool true) ∧ (∃ v', PW B w' gs gn gt gm na nb (stepQ w0 q 1 ev) v') ∧ Below B w w' := by
  obtain ⟨st, hst⟩ : ∃ st, q.st 1 = st := ⟨_, rfl⟩
  obtain ⟨wn, hwn⟩ : ∃ wn, winOf w0 1 = wn := ⟨_, rfl⟩
  have PWIN := Lib.hid (fun u => by have := wins nb na u hb ha; rwa [hw, hwn] at this)
  have PSTEP0 := fun u => step st ev wn u
  obtain ⟨n, hn⟩ : ∃ n, nextF st ev wn = n := ⟨_, rfl⟩
  obtain ⟨xs, hxs⟩ : ∃ xs, doF st ev wn = xs := ⟨_, rfl⟩
  rw [hst] at he
  have hlx : xs.length ≤ 3 := by rw [← hxs]; exact doF_le st ev wn
  rw [hn, hxs, he] at PSTEP0
  have PSTEP := Lib.hid PSTEP0
  have HQ := Lib.hid (show stepQ w0 q 1 ev = xs.foldl (doOne 1) (q.setSt 1 n) by unfold stepQ; rw [hst, hwn, hn, hxs])
  have HH := Lib.hid hP
  have cs := hP.st.cell 1
  have cn0 := hP.nm.cell 1
  have cn1 := hP.nm.cell 0
  simp at cs cn0 cn1
  rw [show q.s1 = st from hst] at cs
  have kw0 : IntKind.i64.wrap 0 = 0 := by decide
  have kw1 : IntKind.i64.wrap 1 = 1 := by decide
  have ls := hP.st.lt
  have ln := hP.nm.lt
  have HSH := Lib.hid (fun j => shortQ_iff hsh j)
  clear PSTEP0 hst hwn hn hxs hw he hsh ha hb hP
  go_enter Try.func14, Try.ntmps14
  go_upto_region 1 with fail
  refine Mono.wp_region_mono [some 14, some 15, some 16, some 17, some 18, some 19, some 20, some 21, some 22, some 23, some 24, some 25, some 26, some 13, some 27, some 28, some 29, some 9, some 10, some 11] [Mono.isV (.int .i64 1), Mono.isV (.pointer (some ⟨gs, 1, none⟩)), Mono.isV (.int .i64 st), Mono.isV (.int .i64 ev), Mono.isV (.int .i64 1), Mono.isV (.pointer (some ⟨gn, 1, none⟩)), Mono.isV (.string nb), Mono.isV (.int .i64 1), Mono.isV (.int .i64 0), Mono.isV (.pointer (some ⟨gn, 0, none⟩)), Mono.isV (.string na), Mono.isV (.bool wn), tupP w.heap.size n xs, tupP w.heap.size n xs, Mono.isV (.int .i64 n), rowI w.heap.size xs, Mono.isV (.int .i64 0), Mono.isV (.int .i64 n), rowI w.heap.size xs, Mono.isV (.int .i64 0)] (by kernel_rfl) (by kernel_rfl) ?_ ?_
  · simp only [Mono.OpGoals, and_true]
    refine ⟨?_, ?_, ?_, ?_, ?_, ?_, ?_, ?_, ?_, ?_, ?_, ?_, ?_, ?_, ?_, ?_, ?_, ?_, ?_, ?_⟩
    · intro a u hbu hsu hdu
      have cs := (hbu.cell (p := ⟨gs, 1, none⟩) ls).trans cs; have cn0 := (hbu.cell (p := ⟨gn, 1, none⟩) ln).trans cn0; have cn1 := (hbu.cell (p := ⟨gn, 0, none⟩) ln).trans cn1
      refine Mono.if_want rfl ?_
      exact Mono.ok_move (.tmp 0) rfl (hsu 0 (by decide))
    · intro a u hbu hsu hdu
      have cs := (hbu.cell (p := ⟨gs, 1, none⟩) ls).trans cs; have cn0 := (hbu.cell (p := ⟨gn, 1, none⟩) ln).trans cn0; have cn1 := (hbu.cell (p := ⟨gn, 0, none⟩) ln).trans cn1
      refine Mono.if_want rfl ?_
      have z2 : a.eval (.tmp 2) = .pointer (some ⟨gs, 0, none⟩) := hsu 2 (by decide)
      simp [Act.eval] at z2
      have z14 : a.eval (.tmp 14) = .int .i64 1 := Mono.dep_at hdu (i := 0) (d := 14) rfl rfl rfl
      simp [Act.eval] at z14
      exact Mono.ok_val (.pointer (some ⟨gs, 1, none⟩)) (by simp [execOp, z2, z14, go_sem, cs, cn0, cn1, kw0, kw1]) rfl
    · intro a u hbu hsu hdu
      have cs := (hbu.cell (p := ⟨gs, 1, none⟩) ls).trans cs; have cn0 := (hbu.cell (p := ⟨gn, 1, none⟩) ln).trans cn0; have cn1 := (hbu.cell (p := ⟨gn, 0, none⟩) ln).trans cn1
      refine Mono.if_want rfl ?_
      have z15 : a.eval (.tmp 15) = .pointer (some ⟨gs, 1, none⟩) := Mono.dep_at hdu (i := 1) (d := 15) rfl rfl rfl
      simp [Act.eval] at z15
      exact Mono.ok_val (.int .i64 st) (by simp [execOp, z15, go_sem, cs, cn0, cn1, kw0, kw1]) rfl
    · intro a u hbu hsu hdu
      have cs := (hbu.cell (p := ⟨gs, 1, none⟩) ls).trans cs; have cn0 := (hbu.cell (p := ⟨gn, 1, none⟩) ln).trans cn0; have cn1 := (hbu.cell (p := ⟨gn, 0, none⟩) ln).trans cn1
      refine Mono.if_want rfl ?_
      exact Mono.ok_move (.tmp 1) rfl (hsu 1 (by decide))
    · intro a u hbu hsu hdu
      have cs := (hbu.cell (p := ⟨gs, 1, none⟩) ls).trans cs; have cn0 := (hbu.cell (p := ⟨gn, 1, none⟩) ln).trans cn0; have cn1 := (hbu.cell (p := ⟨gn, 0, none⟩) ln).trans cn1
      refine Mono.if_want rfl ?_
      exact Mono.ok_move (.tmp 0) rfl (hsu 0 (by decide))
    · intro a u hbu hsu hdu
      have cs := (hbu.cell (p := ⟨gs, 1, none⟩) ls).trans cs; have cn0 := (hbu.cell (p := ⟨gn, 1, none⟩) ln).trans cn0; have cn1 := (hbu.cell (p := ⟨gn, 0, none⟩) ln).trans cn1
      refine Mono.if_want rfl ?_
      have z3 : a.eval (.tmp 3) = .pointer (some ⟨gn, 0, none⟩) := hsu 3 (by decide)
      simp [Act.eval] at z3
      have z18 : a.eval (.tmp 18) = .int .i64 1 := Mono.dep_at hdu (i := 4) (d := 18) rfl rfl rfl
      simp [Act.eval] at z18
      exact Mono.ok_val (.pointer (some ⟨gn, 1, none⟩)) (by simp [execOp, z3, z18, go_sem, cs, cn0, cn1, kw0, kw1]) rfl
    · intro a u hbu hsu hdu
      have cs := (hbu.cell (p := ⟨gs, 1, none⟩) ls).trans cs; have cn0 := (hbu.cell (p := ⟨gn, 1, none⟩) ln).trans cn0; have cn1 := (hbu.cell (p := ⟨gn, 0, none⟩) ln).trans cn1
      refine Mono.if_want rfl ?_
      have z19 : a.eval (.tmp 19) = .pointer (some ⟨gn, 1, none⟩) := Mono.dep_at hdu (i := 5) (d := 19) rfl rfl rfl
      simp [Act.eval] at z19
      exact Mono.ok_val (.string nb) (by simp [execOp, z19, go_sem, cs, cn0, cn1, kw0, kw1]) rfl
    · intro a u hbu hsu hdu
      have cs := (hbu.cell (p := ⟨gs, 1, none⟩) ls).trans cs; have cn0 := (hbu.cell (p := ⟨gn, 1, none⟩) ln).trans cn0; have cn1 := (hbu.cell (p := ⟨gn, 0, none⟩) ln).trans cn1
      refine Mono.if_want rfl ?_
      exact Mono.ok_move (.tmp 0) rfl (hsu 0 (by decide))
    · intro a u hbu hsu hdu
      have cs := (hbu.cell (p := ⟨gs, 1, none⟩) ls).trans cs; have cn0 := (hbu.cell (p := ⟨gn, 1, none⟩) ln).trans cn0; have cn1 := (hbu.cell (p := ⟨gn, 0, none⟩) ln).trans cn1
      refine Mono.if_want rfl ?_
      have z21 : a.eval (.tmp 21) = .int .i64 1 := Mono.dep_at hdu (i := 7) (d := 21) rfl rfl rfl
      simp [Act.eval] at z21
      exact Mono.ok_val (.int .i64 0) (by simp [execOp, z21, go_sem, cs, cn0, cn1, kw0, kw1]) rfl
    · intro a u hbu hsu hdu
      have cs := (hbu.cell (p := ⟨gs, 1, none⟩) ls).trans cs; have cn0 := (hbu.cell (p := ⟨gn, 1, none⟩) ln).trans cn0; have cn1 := (hbu.cell (p := ⟨gn, 0, none⟩) ln).trans cn1
      refine Mono.if_want rfl ?_
      have z3 : a.eval (.tmp 3) = .pointer (some ⟨gn, 0, none⟩) := hsu 3 (by decide)
      simp [Act.eval] at z3
      have z22 : a.eval (.tmp 22) = .int .i64 0 := Mono.dep_at hdu (i := 8) (d := 22) rfl rfl rfl
      simp [Act.eval] at z22
      exact Mono.ok_val (.pointer (some ⟨gn, 0, none⟩)) (by simp [execOp, z3, z22, go_sem, cs, cn0, cn1, kw0, kw1]) rfl
    · intro a u hbu hsu hdu
      have cs := (hbu.cell (p := ⟨gs, 1, none⟩) ls).trans cs; have cn0 := (hbu.cell (p := ⟨gn, 1, none⟩) ln).trans cn0; have cn1 := (hbu.cell (p := ⟨gn, 0, none⟩) ln).trans cn1
      refine Mono.if_want rfl ?_
      have z23 : a.eval (.tmp 23) = .pointer (some ⟨gn, 0, none⟩) := Mono.dep_at hdu (i := 9) (d := 23) rfl rfl rfl
      simp [Act.eval] at z23
      exact Mono.ok_val (.string na) (by simp [execOp, z23, go_sem, cs, cn0, cn1, kw0, kw1]) rfl
    · intro a u hbu hsu hdu
      have cs := (hbu.cell (p := ⟨gs, 1, none⟩) ls).trans cs; have cn0 := (hbu.cell (p := ⟨gn, 1, none⟩) ln).trans cn0; have cn1 := (hbu.cell (p := ⟨gn, 0, none⟩) ln).trans cn1
      refine Mono.if_want rfl ?_
      have z20 : a.eval (.tmp 20) = .string nb := Mono.dep_at hdu (i := 6) (d := 20) rfl rfl rfl
      have z24 : a.eval (.tmp 24) = .string na := Mono.dep_at hdu (i := 10) (d := 24) rfl rfl rfl
      simp [Act.eval] at z20 z24
      exact Mono.ok_call 12 _ _ rfl #[.string nb, .string na] (by simp [execOp, z20, z24, go_sem]) ((PWIN.out u).mono (fun e x ⟨h1, h2⟩ => ⟨_, h1, h2, rfl⟩))
    · intro a u hbu hsu hdu
      have cs := (hbu.cell (p := ⟨gs, 1, none⟩) ls).trans cs; have cn0 := (hbu.cell (p := ⟨gn, 1, none⟩) ln).trans cn0; have cn1 := (hbu.cell (p := ⟨gn, 0, none⟩) ln).trans cn1
      refine Mono.if_want rfl ?_
      have z16 : a.eval (.tmp 16) = .int .i64 st := Mono.dep_at hdu (i := 2) (d := 16) rfl rfl rfl
      have z17 : a.eval (.tmp 17) = .int .i64 ev := Mono.dep_at hdu (i := 3) (d := 17) rfl rfl rfl
      have z25 : a.eval (.tmp 25) = .bool wn := Mono.dep_at hdu (i := 11) (d := 25) rfl rfl rfl
      simp [Act.eval] at z16 z17 z25
      have hws : w.heap.size ≤ u.heap.size := hbu.size
      exact Mono.ok_call 8 _ _ rfl #[.int .i64 st, .int .i64 ev, .bool wn] (by simp [execOp, z16, z17, z25, go_sem]) ((PSTEP.out u).mono (fun e x ⟨h1, d, h2, h3⟩ => ⟨_, h2, h1, d, rfl, h3.mono hws⟩))
    · intro a u hbu hsu hdu
      have cs := (hbu.cell (p := ⟨gs, 1, none⟩) ls).trans cs; have cn0 := (hbu.cell (p := ⟨gn, 1, none⟩) ln).trans cn0; have cn1 := (hbu.cell (p := ⟨gn, 0, none⟩) ln).trans cn1
      refine Mono.if_want rfl ?_
      exact Mono.ok_move (.tmp 26) rfl (Mono.dep_at hdu (i := 12) (d := 26) rfl rfl rfl)
    · intro a u hbu hsu hdu
      have cs := (hbu.cell (p := ⟨gs, 1, none⟩) ls).trans cs; have cn0 := (hbu.cell (p := ⟨gn, 1, none⟩) ln).trans cn0; have cn1 := (hbu.cell (p := ⟨gn, 0, none⟩) ln).trans cn1
      refine Mono.if_want rfl ?_
      obtain ⟨d, e1, hd⟩ : (tupP w.heap.size n xs).R (a.eval (.tmp 13)) u := Mono.dep_at hdu (i := 13) (d := 13) rfl rfl rfl
      simp [Act.eval] at e1
      exact Mono.ok_val (.int .i64 n) (by simp [execOp, e1, go_sem]) rfl
    · intro a u hbu hsu hdu
      have cs := (hbu.cell (p := ⟨gs, 1, none⟩) ls).trans cs; have cn0 := (hbu.cell (p := ⟨gn, 1, none⟩) ln).trans cn0; have cn1 := (hbu.cell (p := ⟨gn, 0, none⟩) ln).trans cn1
      refine Mono.if_want rfl ?_
      obtain ⟨d, e1, hd⟩ : (tupP w.heap.size n xs).R (a.eval (.tmp 13)) u := Mono.dep_at hdu (i := 13) (d := 13) rfl rfl rfl
      simp [Act.eval] at e1
      exact Mono.ok_val d (by simp [execOp, e1, go_sem]) hd
    · intro a u hbu hsu hdu
      have cs := (hbu.cell (p := ⟨gs, 1, none⟩) ls).trans cs; have cn0 := (hbu.cell (p := ⟨gn, 1, none⟩) ln).trans cn0; have cn1 := (hbu.cell (p := ⟨gn, 0, none⟩) ln).trans cn1
      refine Mono.if_want rfl ?_
      obtain ⟨d, e1, hd⟩ : (tupP w.heap.size n xs).R (a.eval (.tmp 13)) u := Mono.dep_at hdu (i := 13) (d := 13) rfl rfl rfl
      simp [Act.eval] at e1
      exact Mono.ok_val (.int .i64 0) (by simp [execOp, e1, go_sem]) rfl
    · intro a u hbu hsu hdu
      have cs := (hbu.cell (p := ⟨gs, 1, none⟩) ls).trans cs; have cn0 := (hbu.cell (p := ⟨gn, 1, none⟩) ln).trans cn0; have cn1 := (hbu.cell (p := ⟨gn, 0, none⟩) ln).trans cn1
      refine Mono.if_want rfl ?_
      exact Mono.ok_assign (.tmp 27) rfl (Mono.dep_at hdu (i := 14) (d := 27) rfl rfl rfl)
    · intro a u hbu hsu hdu
      have cs := (hbu.cell (p := ⟨gs, 1, none⟩) ls).trans cs; have cn0 := (hbu.cell (p := ⟨gn, 1, none⟩) ln).trans cn0; have cn1 := (hbu.cell (p := ⟨gn, 0, none⟩) ln).trans cn1
      refine Mono.if_want rfl ?_
      exact Mono.ok_assign (.tmp 28) rfl (Mono.dep_at hdu (i := 15) (d := 28) rfl rfl rfl)
    · intro a u hbu hsu hdu
      have cs := (hbu.cell (p := ⟨gs, 1, none⟩) ls).trans cs; have cn0 := (hbu.cell (p := ⟨gn, 1, none⟩) ln).trans cn0; have cn1 := (hbu.cell (p := ⟨gn, 0, none⟩) ln).trans cn1
      refine Mono.if_want rfl ?_
      exact Mono.ok_assign (.tmp 29) rfl (Mono.dep_at hdu (i := 16) (d := 29) rfl rfl rfl)
  intro u hu
  simp only [Mono.Fin]
  rintro _ rfl _ rfl _ rfl _ rfl _ rfl _ rfl _ rfl _ rfl _ rfl _ rfl _ rfl _ rfl v26 h26 v13 h13 _ rfl v28 h28 _ rfl _ rfl v10 h10 _ rfl
  simp [Act.put]
  have HP2 := Lib.hid (HH.out.below hu)
  have hat2 := HP2.out.st
  have HR2 := Lib.hid (rowI_out h10)
  have HU := Lib.hid hu
  obtain ⟨p10, c10, e10, _⟩ := id HR2.out.reads
  subst e10
  clear cs cn0 cn1 h13 h26 h28 h10 hu
  go_wp2_with (first
    | ((with_reducible refine wpl_storeC rfl 3 (.tmp 34) (.tmp 33) rfl rfl gs 1 33 (#[.int .i64 q.s0, .int .i64 q.s1] : Array Value) ((#[.int .i64 q.s0, .int .i64 q.s1] : Array Value).set! 1 (.int .i64 n)) (.int .i64 n) ?_ ?_ hat2 ?_ (by kernel_rfl) rfl rfl ?_); rfl; rfl; (show (1 : Nat) < 2; decide); go_must (intro u2 hat3 hg3; have HP3 := Lib.hid (HP2.out.setSt 1 (by decide) n hat3 hg3); have HG3 := Lib.hid (And.intro hg3 hat2); clear hat3 hg3 hat2)))
  have HR3 := Lib.hid (show Row .i64 3 w.heap.size u2 (.slice p10 xs.length c10) xs by
    obtain ⟨hg3, hat2⟩ := HG3.out
    refine HR2.out.kept hg3 ?_
    cases hb : (Value.slice p10 xs.length c10).ownBlock with
    | none => exact .inl rfl
    | some g =>
      refine .inr (fun e => ?_)
      obtain ⟨cur, hc⟩ := row_at HR2.out hb
      cases e
      exact at_ne' hat2 hc (by decide) rfl)
  obtain ⟨q', hq'⟩ : ∃ q', q.setSt 1 n = q' := ⟨_, rfl⟩
  have HPL := Lib.hid (show ∀ k, k ≤ xs.length → ∀ j, j < 4 → (((xs.take k).foldl (doOne 1) q').x j).length ≤ 90 + k by
    intro k
    induction k with
    | zero => intro _ j _; rw [← hq', List.take_zero, List.foldl_nil, x_setSt]; exact HSH.out j
    | succ k ih =>
      intro hk j hj
      have hget : xs[k]? = some (xs[k]'(by omega)) := List.getElem?_eq_getElem (by omega)
      rw [doOne_take 1 q' xs k _ hget]
      exact doOne_len 1 (by decide) _ _ (90 + k) (ih (by omega)) j hj)
  rw [hq'] at HQ HP3
  have HB3 := Lib.hid (show Below B w u2 from below_grown (HU.out.mono HH.out.size) HG3.out.1 (Nat.le_trans HH.out.size HU.out.size) HH.out.base.1)
  clear hq'
  go_loopw [12] (fun j wr => ∃ (k : Nat) (v : Nat → Value), j = .int .i64 k ∧ k ≤ xs.length ∧ PW B wr gs gn gt gm na nb ((xs.take k).foldl (doOne 1) q') v ∧ Row .i64 3 w.heap.size wr (.slice p10 xs.length c10) xs ∧ (∀ i, i < 4 → ∀ g, blk (v i) = some g → (Value.slice p10 xs.length c10).ownBlock ≠ some g) ∧ Below B w wr) (fun j _ => xs.length - (intOf j).toNat)
  case atStart => exact ⟨0, v, rfl, by omega, HP3.out, HR3.out, fun i hi g hg e => (by have h1 := ((HH.out.own i hi).lt hg).2.1; have h2 := (HR3.out.lt _ e).1; omega), HB3.out⟩
  case round =>
    obtain ⟨k, v, rfl, hk, hP, hr, hne, hbl⟩ := hrel
    have hR := And.intro hr hne
    by_cases hlt : k < xs.length
    · obtain ⟨d, hd⟩ : ∃ d, xs[k]? = some d := ⟨_, List.getElem?_eq_getElem hlt⟩
      obtain ⟨g10, rfl, _, _, _⟩ := hr.form (by omega)
      have hcd := (hr.cell k hlt).1
      rw [List.getD_eq_getElem?_getD, hd] at hcd
      simp only [Option.getD_some] at hcd
      have HD := Lib.hid hd
      have hlt' : (k : Int) < xs.length := by omega
      clear hd hr hne
      have hdc : d = 2 ∨ d = 4 ∨ d = 6 ∨ d = 7 ∨ ((d == 2) = false ∧ (d == 4) = false ∧ (d == 6) = false ∧ (d == 7) = false) := by
        by_cases h1 : d = 2
        · exact .inl h1
        by_cases h2 : d = 4
        · exact .inr (.inl h2)
        by_cases h3 : d = 6
        · exact .inr (.inr (.inl h3))
        by_cases h4 : d = 7
        · exact .inr (.inr (.inr (.inl h4)))
        exact .inr (.inr (.inr (.inr ⟨by simpa using h1, by simpa using h2, by simpa using h3, by simpa using h4⟩)))
      rcases hdc with hd | hd | hd | hd | ⟨d1, d2, d3, d4⟩
      next =>
        · subst hd
          have hc := (hP.own 2 (by decide)).form
          obtain ⟨pj, kj, evj⟩ := hc
          have hoj := Lib.hid (hP.own 2 (by decide))
          obtain ⟨vj, hvj⟩ : ∃ vj, v 2 = vj := ⟨_, rfl⟩
          rw [hvj] at hoj
          have ct := hP.th.cell 0
          simp at ct
          rw [hvj] at ct
          have HPP := Lib.hid hP
          have HVJ := Lib.hid hvj
          have HBL := Lib.hid hbl
          have HR := Lib.hid hR
          clear hP evj hvj hbl hR
          go_wp2_with (first
            | ((with_reducible refine wpl_build1 rfl 2 rfl ?_); go_must (intro u1 hat1 hb1; have HP1 := Lib.hid (HPP.out.below hb1); have HR1 := Lib.hid (HR.out.1.below hb1); obtain ⟨x, u2, hrun, ho2, hg2, hw2, h12⟩ := (hoj.out.below hb1).append 2 wr.heap.size hat1 HP1.out.size (by have := HPL.out k hk 2 (by decide); omega); have HRUN := Lib.hid hrun; have HO2 := Lib.hid (And.intro ho2 (And.intro hg2 (And.intro hw2 hb1))); have hT2 : At u2 gt 34 (#[v 2, v 3] : Array Value) := (by have hh := HP1.out.th; have hne := blk_ne (hoj.out.below hb1) hh (by decide); unfold At at hh ⊢; rw [hg2.block _ (At.lt hh) (fun e => hne e.symm)]; exact hh); clear hrun ho2 hg2 hw2 hat1 hb1 ct))
            | ((with_reducible refine wpl_appendV rfl 22 (.tmp 52) (.tmp 53) rfl vj (.slice (some ⟨wr.heap.size, 0, none⟩) 1 1) x u2 ?_ ?_ HRUN.out ?_); rfl; rfl)
            | ((with_reducible refine wpl_storeC rfl 22 (.tmp 55) (.tmp 54) rfl rfl gt 0 34 (#[v 2, v 3] : Array Value) ((#[v 2, v 3] : Array Value).set! 0 x) x ?_ ?_ hT2 ?_ (by kernel_rfl) h12 rfl ?_); rfl; rfl; (show (0 : Nat) < 2; decide); go_must (intro u3 hat3 hg3; have HF := Lib.hid (And.intro hat3 hg3); clear hat3 hg3 hT2)))
          go_roundw
          case rel =>
            obtain ⟨o2, g2, w2, b1⟩ := HO2.out
            obtain ⟨a3, g3⟩ := HF.out
            have hP1 := HP1.out
            have hvv := HVJ.out
            have hnew := hP1.setX 2 (by decide) rfl (((xs.take k).foldl (doOne 1) q').x 2 ++ [2]) x o2 (by rw [hvv]; exact g2) (by rw [hvv]; exact w2) a3 g3
            have hs1 := b1.size
            have hs2 := g2.size
            refine ⟨k + 1, updV v 2 x, by go_num, by omega, ?_, ?_, ?_, ?_⟩
            · rw [doOne_take 1 q' xs k _ HD.out]
              exact hnew
            · refine (row_blk HR1.out g2 (fun g hg => ?_)).kept g3 (.inr ?_)
              · exact HR.out.2 2 (by decide) g (by rw [hvv]; exact hg)
              · intro e
                obtain ⟨cur, hc⟩ := row_at (row_blk HR1.out g2 (fun g hg => HR.out.2 2 (by decide) g (by rw [hvv]; exact hg))) e
                have hh := hP1.th
                have hne := blk_ne (hoj.out.below b1) hh (by decide)
                have hh2 : At u2 gt 34 _ := (by unfold At at hh ⊢; rw [g2.block _ (At.lt hh) (fun e => hne e.symm)]; exact hh)
                exact at_ne' hh2 hc (by decide) rfl
            · intro i hi g hg
              by_cases ei : i = 2
              · subst ei
                rw [show updV v 2 x 2 = x from if_pos rfl] at hg
                rcases w2 with e | e
                · exact HR.out.2 2 (by decide) g (by rw [hvv, ← e]; exact hg)
                · rw [e] at hg
                  cases hg
                  intro e2
                  have := (HR1.out.lt _ e2).2
                  omega
              · rw [show updV v 2 x i = v i from if_neg ei] at hg
                exact HR.out.2 i hi g hg
            · refine below_grown ((HBL.out.trans (b1.mono HPP.out.size)).grown g2 (Nat.le_trans HPP.out.size hs1) (fun g hg => (hoj.out.lt hg).1)) g3 (Nat.le_trans (Nat.le_trans HPP.out.size hs1) hs2) hP1.base.2.2.1
          case measure => simp [intOf]; omega
      next =>
        · subst hd
          have hc := (hP.own 0 (by decide)).form
          obtain ⟨pj, kj, evj⟩ := hc
          have hoj := Lib.hid (hP.own 0 (by decide))
          obtain ⟨vj, hvj⟩ : ∃ vj, v 0 = vj := ⟨_, rfl⟩
          rw [hvj] at hoj
          have ct := hP.mi.cell 0
          simp at ct
          rw [hvj] at ct
          have HPP := Lib.hid hP
          have HVJ := Lib.hid hvj
          have HBL := Lib.hid hbl
          have HR := Lib.hid hR
          clear hP evj hvj hbl hR
          go_wp2_with (first
            | ((with_reducible refine wpl_build1 rfl 6 rfl ?_); go_must (intro u1 hat1 hb1; have HP1 := Lib.hid (HPP.out.below hb1); have HR1 := Lib.hid (HR.out.1.below hb1); obtain ⟨x, u2, hrun, ho2, hg2, hw2, h12⟩ := (hoj.out.below hb1).append 6 wr.heap.size hat1 HP1.out.size (by have := HPL.out k hk 0 (by decide); omega); have HRUN := Lib.hid hrun; have HO2 := Lib.hid (And.intro ho2 (And.intro hg2 (And.intro hw2 hb1))); have hT2 : At u2 gm 34 (#[v 0, v 1] : Array Value) := (by have hh := HP1.out.mi; have hne := blk_ne (hoj.out.below hb1) hh (by decide); unfold At at hh ⊢; rw [hg2.block _ (At.lt hh) (fun e => hne e.symm)]; exact hh); clear hrun ho2 hg2 hw2 hat1 hb1 ct))
            | ((with_reducible refine wpl_appendV rfl 22 (.tmp 63) (.tmp 64) rfl vj (.slice (some ⟨wr.heap.size, 0, none⟩) 1 1) x u2 ?_ ?_ HRUN.out ?_); rfl; rfl)
            | ((with_reducible refine wpl_storeC rfl 22 (.tmp 66) (.tmp 65) rfl rfl gm 0 34 (#[v 0, v 1] : Array Value) ((#[v 0, v 1] : Array Value).set! 0 x) x ?_ ?_ hT2 ?_ (by kernel_rfl) h12 rfl ?_); rfl; rfl; (show (0 : Nat) < 2; decide); go_must (intro u3 hat3 hg3; have HF := Lib.hid (And.intro hat3 hg3); clear hat3 hg3 hT2)))
          go_roundw
          case rel =>
            obtain ⟨o2, g2, w2, b1⟩ := HO2.out
            obtain ⟨a3, g3⟩ := HF.out
            have hP1 := HP1.out
            have hvv := HVJ.out
            have hnew := hP1.setX 0 (by decide) rfl (((xs.take k).foldl (doOne 1) q').x 0 ++ [6]) x o2 (by rw [hvv]; exact g2) (by rw [hvv]; exact w2) a3 g3
            have hs1 := b1.size
            have hs2 := g2.size
            refine ⟨k + 1, updV v 0 x, by go_num, by omega, ?_, ?_, ?_, ?_⟩
            · rw [doOne_take 1 q' xs k _ HD.out]
              exact hnew
            · refine (row_blk HR1.out g2 (fun g hg => ?_)).kept g3 (.inr ?_)
              · exact HR.out.2 0 (by decide) g (by rw [hvv]; exact hg)
              · intro e
                obtain ⟨cur, hc⟩ := row_at (row_blk HR1.out g2 (fun g hg => HR.out.2 0 (by decide) g (by rw [hvv]; exact hg))) e
                have hh := hP1.mi
                have hne := blk_ne (hoj.out.below b1) hh (by decide)
                have hh2 : At u2 gm 34 _ := (by unfold At at hh ⊢; rw [g2.block _ (At.lt hh) (fun e => hne e.symm)]; exact hh)
                exact at_ne' hh2 hc (by decide) rfl
            · intro i hi g hg
              by_cases ei : i = 0
              · subst ei
                rw [show updV v 0 x 0 = x from if_pos rfl] at hg
                rcases w2 with e | e
                · exact HR.out.2 0 (by decide) g (by rw [hvv, ← e]; exact hg)
                · rw [e] at hg
                  cases hg
                  intro e2
                  have := (HR1.out.lt _ e2).2
                  omega
              · rw [show updV v 0 x i = v i from if_neg ei] at hg
                exact HR.out.2 i hi g hg
            · refine below_grown ((HBL.out.trans (b1.mono HPP.out.size)).grown g2 (Nat.le_trans HPP.out.size hs1) (fun g hg => (hoj.out.lt hg).1)) g3 (Nat.le_trans (Nat.le_trans HPP.out.size hs1) hs2) hP1.base.2.2.2
          case measure => simp [intOf]; omega
      next =>
        · subst hd
          have hc := (hP.own 2 (by decide)).form
          obtain ⟨pj, kj, evj⟩ := hc
          have hoj := Lib.hid (hP.own 2 (by decide))
          obtain ⟨vj, hvj⟩ : ∃ vj, v 2 = vj := ⟨_, rfl⟩
          rw [hvj] at hoj
          have ct := hP.th.cell 0
          simp at ct
          rw [hvj] at ct
          have HPP := Lib.hid hP
          have HVJ := Lib.hid hvj
          have HBL := Lib.hid hbl
          have HR := Lib.hid hR
          clear hP evj hvj hbl hR
          go_wp2_with (first
            | ((with_reducible refine wpl_build1 rfl 8 rfl ?_); go_must (intro u1 hat1 hb1; have HP1 := Lib.hid (HPP.out.below hb1); have HR1 := Lib.hid (HR.out.1.below hb1); obtain ⟨x, u2, hrun, ho2, hg2, hw2, h12⟩ := (hoj.out.below hb1).append 8 wr.heap.size hat1 HP1.out.size (by have := HPL.out k hk 2 (by decide); omega); have HRUN := Lib.hid hrun; have HO2 := Lib.hid (And.intro ho2 (And.intro hg2 (And.intro hw2 hb1))); have hT2 : At u2 gt 34 (#[v 2, v 3] : Array Value) := (by have hh := HP1.out.th; have hne := blk_ne (hoj.out.below hb1) hh (by decide); unfold At at hh ⊢; rw [hg2.block _ (At.lt hh) (fun e => hne e.symm)]; exact hh); clear hrun ho2 hg2 hw2 hat1 hb1 ct))
            | ((with_reducible refine wpl_appendV rfl 22 (.tmp 74) (.tmp 75) rfl vj (.slice (some ⟨wr.heap.size, 0, none⟩) 1 1) x u2 ?_ ?_ HRUN.out ?_); rfl; rfl)
            | ((with_reducible refine wpl_storeC rfl 22 (.tmp 77) (.tmp 76) rfl rfl gt 0 34 (#[v 2, v 3] : Array Value) ((#[v 2, v 3] : Array Value).set! 0 x) x ?_ ?_ hT2 ?_ (by kernel_rfl) h12 rfl ?_); rfl; rfl; (show (0 : Nat) < 2; decide); go_must (intro u3 hat3 hg3; have HF := Lib.hid (And.intro hat3 hg3); clear hat3 hg3 hT2)))
          go_roundw
          case rel =>
            obtain ⟨o2, g2, w2, b1⟩ := HO2.out
            obtain ⟨a3, g3⟩ := HF.out
            have hP1 := HP1.out
            have hvv := HVJ.out
            have hnew := hP1.setX 2 (by decide) rfl (((xs.take k).foldl (doOne 1) q').x 2 ++ [8]) x o2 (by rw [hvv]; exact g2) (by rw [hvv]; exact w2) a3 g3
            have hs1 := b1.size
            have hs2 := g2.size
            refine ⟨k + 1, updV v 2 x, by go_num, by omega, ?_, ?_, ?_, ?_⟩
            · rw [doOne_take 1 q' xs k _ HD.out]
              exact hnew
            · refine (row_blk HR1.out g2 (fun g hg => ?_)).kept g3 (.inr ?_)
              · exact HR.out.2 2 (by decide) g (by rw [hvv]; exact hg)
              · intro e
                obtain ⟨cur, hc⟩ := row_at (row_blk HR1.out g2 (fun g hg => HR.out.2 2 (by decide) g (by rw [hvv]; exact hg))) e
                have hh := hP1.th
                have hne := blk_ne (hoj.out.below b1) hh (by decide)
                have hh2 : At u2 gt 34 _ := (by unfold At at hh ⊢; rw [g2.block _ (At.lt hh) (fun e => hne e.symm)]; exact hh)
                exact at_ne' hh2 hc (by decide) rfl
            · intro i hi g hg
              by_cases ei : i = 2
              · subst ei
                rw [show updV v 2 x 2 = x from if_pos rfl] at hg
                rcases w2 with e | e
                · exact HR.out.2 2 (by decide) g (by rw [hvv, ← e]; exact hg)
                · rw [e] at hg
                  cases hg
                  intro e2
                  have := (HR1.out.lt _ e2).2
                  omega
              · rw [show updV v 2 x i = v i from if_neg ei] at hg
                exact HR.out.2 i hi g hg
            · refine below_grown ((HBL.out.trans (b1.mono HPP.out.size)).grown g2 (Nat.le_trans HPP.out.size hs1) (fun g hg => (hoj.out.lt hg).1)) g3 (Nat.le_trans (Nat.le_trans HPP.out.size hs1) hs2) hP1.base.2.2.1
          case measure => simp [intOf]; omega
      next =>
        · subst hd
          have hc := (hP.own 0 (by decide)).form
          obtain ⟨pj, kj, evj⟩ := hc
          have hoj := Lib.hid (hP.own 0 (by decide))
          obtain ⟨vj, hvj⟩ : ∃ vj, v 0 = vj := ⟨_, rfl⟩
          rw [hvj] at hoj
          have ct := hP.mi.cell 0
          simp at ct
          rw [hvj] at ct
          have HPP := Lib.hid hP
          have HVJ := Lib.hid hvj
          have HBL := Lib.hid hbl
          have HR := Lib.hid hR
          clear hP evj hvj hbl hR
          go_wp2_with (first
            | ((with_reducible refine wpl_build1 rfl 7 rfl ?_); go_must (intro u1 hat1 hb1; have HP1 := Lib.hid (HPP.out.below hb1); have HR1 := Lib.hid (HR.out.1.below hb1); obtain ⟨x, u2, hrun, ho2, hg2, hw2, h12⟩ := (hoj.out.below hb1).append 7 wr.heap.size hat1 HP1.out.size (by have := HPL.out k hk 0 (by decide); omega); have HRUN := Lib.hid hrun; have HO2 := Lib.hid (And.intro ho2 (And.intro hg2 (And.intro hw2 hb1))); have hT2 : At u2 gm 34 (#[v 0, v 1] : Array Value) := (by have hh := HP1.out.mi; have hne := blk_ne (hoj.out.below hb1) hh (by decide); unfold At at hh ⊢; rw [hg2.block _ (At.lt hh) (fun e => hne e.symm)]; exact hh); clear hrun ho2 hg2 hw2 hat1 hb1 ct))
            | ((with_reducible refine wpl_appendV rfl 22 (.tmp 85) (.tmp 86) rfl vj (.slice (some ⟨wr.heap.size, 0, none⟩) 1 1) x u2 ?_ ?_ HRUN.out ?_); rfl; rfl)
            | ((with_reducible refine wpl_storeC rfl 22 (.tmp 88) (.tmp 87) rfl rfl gm 0 34 (#[v 0, v 1] : Array Value) ((#[v 0, v 1] : Array Value).set! 0 x) x ?_ ?_ hT2 ?_ (by kernel_rfl) h12 rfl ?_); rfl; rfl; (show (0 : Nat) < 2; decide); go_must (intro u3 hat3 hg3; have HF := Lib.hid (And.intro hat3 hg3); clear hat3 hg3 hT2)))
          go_roundw
          case rel =>
            obtain ⟨o2, g2, w2, b1⟩ := HO2.out
            obtain ⟨a3, g3⟩ := HF.out
            have hP1 := HP1.out
            have hvv := HVJ.out
            have hnew := hP1.setX 0 (by decide) rfl (((xs.take k).foldl (doOne 1) q').x 0 ++ [7]) x o2 (by rw [hvv]; exact g2) (by rw [hvv]; exact w2) a3 g3
            have hs1 := b1.size
            have hs2 := g2.size
            refine ⟨k + 1, updV v 0 x, by go_num, by omega, ?_, ?_, ?_, ?_⟩
            · rw [doOne_take 1 q' xs k _ HD.out]
              exact hnew
            · refine (row_blk HR1.out g2 (fun g hg => ?_)).kept g3 (.inr ?_)
              · exact HR.out.2 0 (by decide) g (by rw [hvv]; exact hg)
              · intro e
                obtain ⟨cur, hc⟩ := row_at (row_blk HR1.out g2 (fun g hg => HR.out.2 0 (by decide) g (by rw [hvv]; exact hg))) e
                have hh := hP1.mi
                have hne := blk_ne (hoj.out.below b1) hh (by decide)
                have hh2 : At u2 gm 34 _ := (by unfold At at hh ⊢; rw [g2.block _ (At.lt hh) (fun e => hne e.symm)]; exact hh)
                exact at_ne' hh2 hc (by decide) rfl
            · intro i hi g hg
              by_cases ei : i = 0
              · subst ei
                rw [show updV v 0 x 0 = x from if_pos rfl] at hg
                rcases w2 with e | e
                · exact HR.out.2 0 (by decide) g (by rw [hvv, ← e]; exact hg)
                · rw [e] at hg
                  cases hg
                  intro e2
                  have := (HR1.out.lt _ e2).2
                  omega
              · rw [show updV v 0 x i = v i from if_neg ei] at hg
                exact HR.out.2 i hi g hg
            · refine below_grown ((HBL.out.trans (b1.mono HPP.out.size)).grown g2 (Nat.le_trans HPP.out.size hs1) (fun g hg => (hoj.out.lt hg).1)) g3 (Nat.le_trans (Nat.le_trans HPP.out.size hs1) hs2) hP1.base.2.2.2
          case measure => simp [intOf]; omega
      next =>
        · have HPP := Lib.hid (And.intro hP (And.intro hR hbl))
          clear hP hR hbl
          go_wp2_with fail
          go_roundw
          case rel =>
            obtain ⟨p1, p2, p3⟩ := HPP.out
            refine ⟨k + 1, v, by go_num, by omega, ?_, p2.1, p2.2, p3⟩
            rw [doOne_take 1 q' xs k _ HD.out]
            unfold doOne
            rw [if_neg (by simpa using d1), if_neg (by simpa using d2), if_neg (by simpa using d3), if_neg (by simpa using d4)]
            exact p1
          case measure => simp [intOf]; omega
    · obtain rfl : k = xs.length := by omega
      have HPP := Lib.hid (And.intro hP hbl)
      clear hP hR hbl hr hne hlt
      go_wp2_with fail
      go_ret
      refine ⟨rfl, ⟨v, ?_⟩, HPP.out.2⟩
      have := HPP.out.1
      rw [List.take_length] at this
      rw [HQ.out]
      exact this
end Go.Proofs.Ytamemmbcdkhdhaa.Peer
