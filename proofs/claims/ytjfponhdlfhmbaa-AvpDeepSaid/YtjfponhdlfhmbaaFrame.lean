/-
  THE FRAME, GENERIC: if a call of function F, entered at whatever arguments that read as data, returns true and leaves all old memory as it was, then the law's row holds. No program is looked into here.
-/
import Derived.Test.YtjfponhdlfhmbaaRows
import Derived.WalkKit
import Derived.ProofKit
import Derived.OpenShut
import Derived.ShutString
import Derived.ChangeOld
import Derived.Below
import Derived.JoinedCond
import Derived.SizedLaws
namespace Go.Proofs.Ytjfponhdlfhmbaa.Frame
open Go.ChangeShapes Go.WideShapes Go.ChangeAt Go.RowKit

section
variable {H : Type} {enc : TypeId × Value → H} {P : Program}

/-- What the arguments read as, they read as behind a call that leaves old memory alone. -/
theorem trodAll_below (hl : laidOutB P = true) {W W' : World} (hb : Below W.heap.size W W') :
    ∀ {ts : List TypeId} {vs : List Value} {ds : List (DataW H)} {ps : List MemPlace}, (∀ t ∈ ts, P.readableRec t = true ∧ t < P.types.size) →
      DataW.TrodAll enc P W 0 (fun _ => true) true ts vs ds ps → DataW.TrodAll enc P W' 0 (fun b => decide (b < W.heap.size)) true ts vs ds ps
  | [], [], [], _, _, h => h
  | t :: ts, v :: vs, d :: ds, ps, hr, h => by
    obtain ⟨p, q, h1, h2, e⟩ := h
    have lt : ∀ x ∈ p, x.block < W.heap.size := by obtain ⟨m, hm⟩ := h1; exact DataW.trod_lt m _ _ _ hm
    exact ⟨p, q, Below.trod hl (hr t (List.mem_cons_self ..)).1 (hr t (List.mem_cons_self ..)).2 h1 hb lt, trodAll_below hl hb (fun t' ht' => hr t' (List.mem_cons_of_mem _ ht')) h2, e⟩
  | [], _ :: _, _, _, _, h => h.elim
  | [], [], _ :: _, _, _, h => h.elim
  | _ :: _, [], _, _, _, h => h.elim
  | _ :: _, _ :: _, [], _, _, h => h.elim
end

/-- The same fact, as the kernel reckons it. -/
theorem reads_of {P : Program} {l : List TypeId} (h : l.all (fun t => P.readableRec t && decide (t < P.types.size)) = true) : ∀ t ∈ l, P.readableRec t = true ∧ t < P.types.size := by
  intro t ht
  have := List.all_eq_true.1 h t ht
  simpa using this

theorem len1 {α : Type} {l : List α} (h : l.length = 1) : ∃ a, l = [a] := by
  match l, h with
  | [a], _ => exact ⟨a, rfl⟩
theorem len2 {α : Type} {l : List α} (h : l.length = 2) : ∃ a b, l = [a, b] := by
  match l, h with
  | [a, b], _ => exact ⟨a, b, rfl⟩
theorem len3 {α : Type} {l : List α} (h : l.length = 3) : ∃ a b c, l = [a, b, c] := by
  match l, h with
  | [a, b, c], _ => exact ⟨a, b, c, rfl⟩
theorem len4 {α : Type} {l : List α} (h : l.length = 4) : ∃ a b c d, l = [a, b, c, d] := by
  match l, h with
  | [a, b, c, d], _ => exact ⟨a, b, c, d, rfl⟩
theorem len5 {α : Type} {l : List α} (h : l.length = 5) : ∃ a b c d e, l = [a, b, c, d, e] := by
  match l, h with
  | [a, b, c, d, e], _ => exact ⟨a, b, c, d, e, rfl⟩

/-- A SLICE OF INTEGERS THAT CAME IN: it is nil; or it leads to a row of 'cap' cells, the numbers 'zs' (the first 'len' are its elements, the rest its spare room), each fitting its kind. -/
def IsRow (k : IntKind) (w : World) (a : Option Addr) (len cap : Nat) (zs : List Int) : Prop :=
  (a = none ∧ len = 0 ∧ cap = 0 ∧ zs = []) ∨
  ∃ b off s, a = some ⟨b, off, s⟩ ∧ len ≤ cap ∧ cap ≤ maxLen ∧ zs.length = cap ∧ (0 < cap → s = none ∧ b < w.heap.size) ∧ (∀ i, i < cap → w.cell? ⟨b, off + i, none⟩ = some (.int k (zs.getD i 0))) ∧ (∀ n ∈ zs, (Lit.int k n).wf = true)

theorem open_row {H : Type} {enc : TypeId × Value → H} {P : Program} {W : World} {base : Nat} {t e : TypeId} {k : IntKind} {v : Value} {d : DataW H} {p : List MemPlace}
    (ht : P.underlying t = some (.slice e)) (he : P.underlying e = some (.int k)) (hc : P.cellsOf e = 1) (hval : Value.okWide P W .any base t v)
    (h : DataW.Trod enc P W 0 (fun _ => true) true t v d p) :
    ∃ (a : Option Addr) (len cap : Nat) (zs : List Int), v = .slice a len cap ∧ IsRow k W a len cap zs ∧ (d = .nil ∧ zs = [] ∨ d = .slice (lits k (zs.take len)) (lits k (zs.drop len))) := by
  obtain ⟨a, len, cap, rfl⟩ := okWide_slice ht hval
  obtain ⟨fuel, hf⟩ := h
  rcases open_ints ht he hc hf with ⟨hcs, hd⟩ | ⟨x, l, c, zs, hcs, _, hl, hm, hz, hd, hcell, hwz⟩
  · simp [Value.cells] at hcs
    obtain ⟨rfl, rfl, rfl⟩ := hcs
    simp only [Prod.mk.injEq] at hd
    exact ⟨_, _, _, [], rfl, .inl ⟨rfl, rfl, rfl, rfl⟩, .inl ⟨hd.1, rfl⟩⟩
  · simp [Value.cells] at hcs
    obtain ⟨rfl, rfl, rfl⟩ := hcs
    have hz' : zs.length = cap := by simpa using hz
    simp only [Prod.mk.injEq] at hd
    refine ⟨_, _, _, zs, rfl, .inr ?_, .inr hd.1⟩
    obtain ⟨b, off, spot⟩ := x
    have key : 0 < cap → spot = none ∧ b < W.heap.size := by
      intro h0
      have hcc := hcell 0 (by omega)
      have hspot : spot = none := by simpa [Addr.add] using World.cell?_spot hcc
      subst hspot
      refine ⟨rfl, ?_⟩
      by_cases hb : b < W.heap.size
      · exact hb
      · exfalso
        have : W.heap[b]? = none := by simp; omega
        simp [World.cell?, Addr.add, this] at hcc
    refine ⟨b, off, spot, rfl, hl, hm, hz', key, fun i hi => ?_, hwz⟩
    obtain ⟨rfl, _⟩ := key (by omega)
    have hx := hcell i (by omega)
    rwa [add_plain] at hx

theorem IsRow.le {k : IntKind} {w : World} {a : Option Addr} {len cap : Nat} {zs : List Int} (h : IsRow k w a len cap zs) : len ≤ cap ∧ zs.length = cap := by
  rcases h with ⟨_, rfl, rfl, rfl⟩ | ⟨_, _, _, _, h1, _, h2, _⟩
  · exact ⟨Nat.le_refl _, rfl⟩
  · exact ⟨h1, h2⟩

/-- THE FORM'S OWN REACH of a slice of integers: its capacity, in bytes. -/
theorem row_len {H : Type} {P : Program} {ts : List TypeId} {ds : List (DataW H)} {W : World} {j t e : Nat} {k : IntKind} {a : Option Addr} {len cap : Nat} {zs : List Int} {d : DataW H}
    (hsz : (DataW.weightsEach P ts ds).all (· ≤ reachBytes) = true) (ht : ts[j]? = some t) (hd : ds[j]? = some d) (hu : P.underlying t = some (.slice e))
    (he : d = .nil ∧ zs = [] ∨ d = .slice (lits k (zs.take len)) (lits k (zs.drop len))) (r : IsRow k W a len cap zs) : len ≤ cap ∧ cap * P.bytesOf e ≤ 140737488351232 := by
  obtain ⟨h1, h2⟩ := r.le
  refine ⟨h1, ?_⟩
  rcases he with ⟨_, rfl⟩ | rfl
  · simp at h2; subst h2; simp
  · have := sized_slice hsz ht hd hu
    simp only [lits, List.length_map, List.length_take, List.length_drop] at this
    rw [show min len zs.length + (zs.length - len) = cap from by omega] at this
    exact this

theorem bulk_lits {H : Type} (k : IntKind) (xs : List Int) : Rows.uptoBulkAll (lits k xs : List (DataW H)) = xs.length := by
  induction xs with
  | nil => rfl
  | cons x xs ih =>
    show 1 + Rows.uptoBulkAll (lits k xs) = _
    rw [ih, List.length_cons]; omega
/-- What a slice of integers counts in the second form's bound. -/
theorem row_bulk {H : Type} {W : World} {k : IntKind} {a : Option Addr} {len cap : Nat} {zs : List Int} {d : DataW H}
    (he : d = .nil ∧ zs = [] ∨ d = .slice (lits k (zs.take len)) (lits k (zs.drop len))) (r : IsRow k W a len cap zs) : len ≤ cap ∧ cap ≤ Rows.uptoBulk d := by
  obtain ⟨h1, h2⟩ := r.le
  refine ⟨h1, ?_⟩
  rcases he with ⟨_, rfl⟩ | rfl
  · simp at h2; omega
  · show cap ≤ Rows.uptoBulkAll _ + Rows.uptoBulkAll _ + 1
    rw [bulk_lits, bulk_lits, List.length_take, List.length_drop]; omega

/-- One world and the next: all that was there is as it was. -/
theorem ext {a b c : World} (h : Below a.heap.size a b) (k : Below b.heap.size b c) : Below a.heap.size a c := h.trans (k.mono h.size)
theorem ext_drew (w : World) : Below w.heap.size w w.drew := (Below.refl _ _).drew

/-- THE CONTRACT of a law: true, and old memory as it was. -/
theorem contract {H : Type} {enc : TypeId × Value → H} {P : Program} {F : Nat} {fn : Func} {s : ChangeSpec} {T : TypeId}
    (hl : laidOutB P = true) (hread : ∀ t ∈ fn.params.toList, P.readableRec t = true ∧ t < P.types.size)
    (hvars : s.vars = []) (hspec : ∀ ds : List (DataW H), ds.length = fn.params.toList.length → s.fn H ds = { results := [.lit (.bool true)], args := ds })
    (hres : fn.resultTypes = #[T]) (hT : P.underlying T = some .bool)
    (W : World) (args : Array Value) (ds gs : List (DataW H)) (before : List MemPlace)
    (hW : DataW.Whole enc P fn.params.toList s.vars false W args.toList ds gs before)
    (walk : ∀ p, DataW.TrodAll enc P W 0 (fun _ => true) true fn.params.toList args.toList ds p →
      Calls P F args W fun e W' => e = .returned (.bool true) ∧ Below W.heap.size W W') :
    Calls P F args W fun e W' => ∃ v, e = .returned v ∧ s.post enc P fn false true false false W args v W' := by
  have hW' := hW
  obtain ⟨p, q, hA, hV, rfl, hfz, hnd⟩ := hW
  rw [hvars] at hV
  obtain ⟨rfl, rfl⟩ := trodVars_none hV
  refine (walk p hA).mono fun e W' ⟨he, bel⟩ => ?_
  subst he
  have hlen : ∀ {ts : List TypeId} {vs : List Value} {ds : List (DataW H)} {ps : List MemPlace}, DataW.TrodAll enc P W 0 (fun _ => true) true ts vs ds ps → ds.length = ts.length := by
    intro ts
    induction ts with
    | nil => intro vs ds ps h; cases vs <;> cases ds <;> first | rfl | exact h.elim
    | cons t ts ih =>
      intro vs ds ps h
      cases vs with
      | nil => exact h.elim
      | cons v vs =>
        cases ds with
        | nil => exact h.elim
        | cons d ds =>
          obtain ⟨p, q, h1, h2, e⟩ := h
          simp [ih h2]
  have hs := hspec ds (hlen hA)
  refine ⟨_, rfl, ds, [], _, [], p, [], hW', ?_, ?_, ?_, bel.frame _, fun h => by cases h⟩
  · rw [List.append_nil, hs, hres]
    exact trodAll_mk1 (shut_bool hT _)
  · rw [List.append_nil, hs]
    exact trodAll_below hl bel hread hA
  · rw [List.append_nil, hs, hvars]
    exact rfl

/-- THE ROW'S STEP, for the first form ('..Said'). -/
theorem lifted {C : Checked} {H : Type} {enc : TypeId × Value → H} {F : Nat} {fn : Func} {s : ChangeSpec} {T : TypeId} {os : Os}
    (own : ownKnob C.prog.godebug = none) (started : os.Started) (noInit : C.prog.inits.idxOf? F = none) (hfn : C.prog.funcs[F]? = some fn)
    (hl : laidOutB C.prog = true) (hread : ∀ t ∈ fn.params.toList, C.prog.readableRec t = true ∧ t < C.prog.types.size)
    (hvars : s.vars = []) (hspec : ∀ ds : List (DataW H), ds.length = fn.params.toList.length → s.fn H ds = { results := [.lit (.bool true)], args := ds })
    (hres : fn.resultTypes = #[T]) (hT : C.prog.underlying T = some .bool)
    (witness : ∃ (w : World) (tape : Tape) (i : Input), w.os = os ∧ (w.forCall tape i).Shaped C.prog ∧ i.vars = [] ∧ Input.okWide C.prog (w.forCall tape i) .any w.heap.size F i ∧
      s.pre6 enc C.prog fn [] false (w.forCall tape i).memory i.args ∧ ({} : Assume).holds C.prog (lone (Frame.enter C.prog F i.args .normal) [] (w.forCall tape i)))
    (walk : ∀ (W : World) (base : Nat) (args : Array Value) (ds : List (DataW H)) (p : List MemPlace),
      (∀ (j : Nat) t v, fn.params[j]? = some t → args[j]? = some v → Value.okWide C.prog W .any base t v) →
      DataW.TrodAll enc C.prog W 0 (fun _ => true) true fn.params.toList args.toList ds p →
      Calls C.prog F args W fun e W' => e = .returned (.bool true) ∧ Below W.heap.size W W') :
    ReturnsInHanded {} C os F .any (s.pre6 enc C.prog fn [] false) (s.post enc C.prog fn false true false false) := by
  refine returnsInHanded_of_change (C := C) own started noInit hfn witness ?_
  intro W base args ds gs before hval hW _ _
  exact contract hl hread hvars hspec hres hT W args ds gs before hW (fun p hp => walk W base args ds p hval hp)

/-- The same where the walk wants the form's own reach: each argument takes at most 2^47 - 4096 bytes. -/
theorem lifted_sized {C : Checked} {H : Type} {enc : TypeId × Value → H} {F : Nat} {fn : Func} {s : ChangeSpec} {T : TypeId} {os : Os}
    (own : ownKnob C.prog.godebug = none) (started : os.Started) (noInit : C.prog.inits.idxOf? F = none) (hfn : C.prog.funcs[F]? = some fn)
    (hl : laidOutB C.prog = true) (hread : ∀ t ∈ fn.params.toList, C.prog.readableRec t = true ∧ t < C.prog.types.size)
    (hvars : s.vars = []) (hspec : ∀ ds : List (DataW H), ds.length = fn.params.toList.length → s.fn H ds = { results := [.lit (.bool true)], args := ds })
    (hres : fn.resultTypes = #[T]) (hT : C.prog.underlying T = some .bool)
    (witness : ∃ (w : World) (tape : Tape) (i : Input), w.os = os ∧ (w.forCall tape i).Shaped C.prog ∧ i.vars = [] ∧ Input.okWide C.prog (w.forCall tape i) .any w.heap.size F i ∧
      s.pre6 enc C.prog fn [] false (w.forCall tape i).memory i.args ∧ ({} : Assume).holds C.prog (lone (Frame.enter C.prog F i.args .normal) [] (w.forCall tape i)))
    (walk : ∀ (W : World) (base : Nat) (args : Array Value) (ds : List (DataW H)) (p : List MemPlace),
      (∀ (j : Nat) t v, fn.params[j]? = some t → args[j]? = some v → Value.okWide C.prog W .any base t v) →
      DataW.TrodAll enc C.prog W 0 (fun _ => true) true fn.params.toList args.toList ds p →
      (DataW.weightsEach C.prog fn.params.toList ds).all (· ≤ reachBytes) = true →
      Calls C.prog F args W fun e W' => e = .returned (.bool true) ∧ Below W.heap.size W W') :
    ReturnsInHanded {} C os F .any (s.pre6 enc C.prog fn [] false) (s.post enc C.prog fn false true false false) := by
  have hv2 : s.plain.varTypes C.prog = [] := by
    unfold DataSpec.varTypes ChangeSpec.plain
    simp [hvars]
  refine returnsInHanded_of_change_sized (C := C) own started noInit hfn witness ?_
  intro W base args ds gs before hval hW _ hsz _
  refine contract hl hread hvars hspec hres hT W args ds gs before hW (fun p hp => walk W base args ds p hval hp ?_)
  obtain ⟨_, _, _, hV, _⟩ := hW
  rw [hvars] at hV
  obtain ⟨rfl, _⟩ := trodVars_none hV
  rw [hv2, List.append_nil, List.append_nil] at hsz
  exact hsz

/-- THE ROW'S STEP, for the second form ('..UptoSaid'): the bound is handed on. -/
theorem liftedUpto {C : Checked} {H : Type} {enc : TypeId × Value → H} {F : Nat} {fn : Func} {s : ChangeSpec} {T : TypeId} {os : Os} {J : Stop.Interp}
    (own : ownKnob C.prog.godebug = none) (started : os.Started) (noInit : C.prog.inits.idxOf? F = none) (hfn : C.prog.funcs[F]? = some fn)
    (hl : laidOutB C.prog = true) (hread : ∀ t ∈ fn.params.toList, C.prog.readableRec t = true ∧ t < C.prog.types.size)
    (hvars : s.vars = []) (hspec : ∀ ds : List (DataW H), ds.length = fn.params.toList.length → s.fn H ds = { results := [.lit (.bool true)], args := ds })
    (hres : fn.resultTypes = #[T]) (hT : C.prog.underlying T = some .bool)
    (witness : ∃ (w : World) (tape : Tape) (i : Input), w.os = os ∧ (w.forCall tape i).Shaped C.prog ∧ i.vars = [] ∧ Input.okWide C.prog (w.forCall tape i) .any w.heap.size F i ∧
      (Rows.OpenSpec.upto s).pre6 enc C.prog fn [] false (w.forCall tape i).memory i.args ∧ ({} : Assume).holds C.prog (lone (Frame.enter C.prog F i.args .normal) [] (w.forCall tape i)))
    (walk : ∀ (W : World) (base : Nat) (args : Array Value) (ds : List (DataW H)) (p : List MemPlace),
      (∀ (j : Nat) t v, fn.params[j]? = some t → args[j]? = some v → Value.okWide C.prog W .any base t v) →
      DataW.TrodAll enc C.prog W 0 (fun _ => true) true fn.params.toList args.toList ds p →
      Rows.uptoSmall H ds = true →
      Calls C.prog F args W fun e W' => e = .returned (.bool true) ∧ Below W.heap.size W W') :
    ReturnsInHanded {} C os F .any ((Rows.OpenSpec.upto s).pre6 enc C.prog fn [] false) (((Rows.OpenSpec.upto s).at J).post enc C.prog fn false true false false) := by
  refine returnsInHanded_of_cond (C := C) (s := Rows.OpenSpec.upto s) (k := Rows.uptoSmall) rfl own started noInit hfn witness ?_
  intro W base args ds gs before hval hW _ hk _
  refine contract hl hread hvars hspec hres hT W args ds gs before hW (fun p hp => walk W base args ds p hval hp ?_)
  obtain ⟨_, _, _, hV, _⟩ := hW
  have hV' : DataW.TrodVars enc C.prog W (fun _ => true) s.vars gs _ := hV
  rw [hvars] at hV'
  obtain ⟨rfl, _⟩ := trodVars_none hV'
  rw [List.append_nil] at hk
  exact hk
end Go.Proofs.Ytjfponhdlfhmbaa.Frame
