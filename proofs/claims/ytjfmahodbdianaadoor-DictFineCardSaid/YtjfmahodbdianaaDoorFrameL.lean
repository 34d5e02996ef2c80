/-
  THE FRAME OF A LAW WHOSE ROW LISTS PACKAGE-LEVEL VARIABLES ('laid'): the walk gets the condition. No program is looked into here.
-/
import Derived.Test.YtjfmahodbdianaaDoorFrame
import Derived.LaidMore
import Derived.Stop.Joined
import Derived.Lib.LaidTab
namespace Go.Proofs.YtjfmahodbdianaaDoor.Frame
open Go.ChangeShapes Go.WideShapes Go.ChangeAt Go.WideMaps Go.WideElems Go.RowKit
set_option linter.unusedVariables false

theorem liftedLaid {C : Checked} {H : Type} {enc : TypeId × Value → H} {F : Nat} {fn : Func} {s : ChangeSpec} {T : TypeId} {os : Os} (L : List (String × DataW Unit))
    (own : ownKnob C.prog.godebug = none) (started : os.Started) (noInit : C.prog.inits.idxOf? F = none) (hfn : C.prog.funcs[F]? = some fn)
    (hl : laidOutB C.prog = true) (hread : ∀ t ∈ fn.params.toList, C.prog.readableRec t = true ∧ t < C.prog.types.size)
    (hvars : s.vars = []) (hspec : ∀ ds : List (DataW H), ds.length = fn.params.toList.length → s.fn H ds = { results := [.lit (.bool true)], args := ds })
    (hres : fn.resultTypes = #[T]) (hT : C.prog.underlying T = some .bool)
    (witness : ∃ (w : World) (tape : Tape) (i : Input), w.os = os ∧ (w.forCall tape i).Shaped C.prog ∧ i.vars = [] ∧ Input.okWide C.prog (w.forCall tape i) .any w.heap.size F i ∧
      ((s.pre enc C.prog fn [] false (w.forCall tape i).memory i.args ∧ laidMetH C.prog L (w.forCall tape i).memory) ∧ sizedMet enc C.prog fn (OpenSpec.ofChange s) false (w.forCall tape i).memory i.args) ∧ ({} : Assume).holds C.prog (lone (Frame.enter C.prog F i.args .normal) [] (w.forCall tape i)))
    (walk : ∀ (W : World) (base : Nat) (args : Array Value) (ds : List (DataW H)) (p : List MemPlace),
      (∀ (j : Nat) t v, fn.params[j]? = some t → args[j]? = some v → Value.okWide C.prog W .any base t v) →
      DataW.TrodAll enc C.prog W 0 (fun _ => true) true fn.params.toList args.toList ds p →
      (DataW.weightsEach C.prog fn.params.toList ds).all (· ≤ reachBytes) = true →
      laidMetH C.prog L W →
      Calls C.prog F args W fun e W' => e = .returned (.bool true) ∧ Below W.heap.size W W') :
    ReturnsInHanded {} C os F .any (fun w args => (s.pre enc C.prog fn [] false w args ∧ laidMetH C.prog L w) ∧ sizedMet enc C.prog fn (OpenSpec.ofChange s) false w args) (s.post enc C.prog fn false true false false) := by
  have hv2 : s.plain.varTypes C.prog = [] := by
    unfold DataSpec.varTypes ChangeSpec.plain
    simp [hvars]
  refine returnsInHanded_of_change_and (C := C) (X := fun w _ => laidMetH C.prog L w) (fun _ _ _ hh h => h.of_heap hh) own started noInit hfn witness ?_
  intro W base args ds gs before hval hW _ hsz hL _
  refine contract hl hread hvars hspec hres hT W args ds gs before hW (fun p hp => walk W base args ds p hval hp ?_ hL)
  obtain ⟨_, _, _, hV, _⟩ := hW
  rw [hvars] at hV
  obtain ⟨rfl, _⟩ := trodVars_none hV
  rw [hv2, List.append_nil, List.append_nil] at hsz
  exact hsz
end Go.Proofs.YtjfmahodbdianaaDoor.Frame
