/-
  No cell of these rows narrows 'for every input' (looked for: loops, veiled, ifaces, maps, wideKeys, modest, calm, conditions, laid).
  DERIVED. THE GIVEN ROWS OF THIS SEAT. 5 by the template 'for every input the law returns true; each argument reads behind the call as it read before'; 0 by the template 'total and deterministic' (their statements: YtamemmbcdkhdhaaTotals.lean).
  GIVEN WITH THE SEED: the statements are not yours to turn. If you find one false, say at which input.
  Laid BY PROGRAM, IN A SANDBOX (cutbox-rows.mjs): the forced cells as the released guide's own fill.sh prints them over the translation e8cdde41516de56f… (all of the seat's roots in one cut). By AI agents, Wed Nov 11 2026. No macro, syntax, notation, axiom, sorry.
-/
import Derived.Test.YtamemmbcdkhdhaaChecked
import GoSem.Claim
import GoSem.ClaimJoined
import GoSem.ClaimMapViews
import Derived.JoinedTies
import Derived.KernelRfl
namespace Go.Proofs.Ytamemmbcdkhdhaa
/- THE CELL 'sum', in the pinned program and in every row, IS THE sha256 OF THE DUMP (.gsa) THAT YtamemmbcdkhdhaaProg.lean LOADS. Nothing in Lean hashes anything: it is a label: what it is worth is what the hold of that sum in a sandbox is worth. -/
noncomputable def Try.pinned : Pinned := { name := "ytamemmbcdkhdhaa", sum := "e8cdde41516de56f7a8cec3406626a8d42dfa1cdec5315a6eac8b924a3d0bfba", checked := Try.checked }
namespace Rows
def none {H : Type} : Left H := { results := [], args := [] }

/-- 'trunklinelaw20.PeerSteps': WHATEVER THE INPUT: true; the input reads as it did. -/
def peerStepsSpec : ChangeSpec := { name := "peerSteps", fn := fun _ => fun
  | [d1, d2, d3] => { results := [.lit (.bool true)], args := [d1, d2, d3] }
  | _ => none }
def peerStepsRow : OpenClaim := { program := "ytamemmbcdkhdhaa", sum := "e8cdde41516de56f7a8cec3406626a8d42dfa1cdec5315a6eac8b924a3d0bfba", func := "trunkline/trunklinelaw20.PeerSteps", spec := "peerSteps", apart := false }
def PeerStepsSaid : Prop := peerStepsRow.holds Try.pinned (OpenSpec.ofChange peerStepsSpec)

/-- ITS FALSE NEIGHBOUR: 'it returns false'. Refute it at one input. -/
def peerStepsWrong : ChangeSpec := { name := "peerSteps", fn := fun _ => fun
  | [d1, d2, d3] => { results := [.lit (.bool false)], args := [d1, d2, d3] }
  | _ => none }
def PeerStepsWrongFalsely : Prop := peerStepsRow.holds Try.pinned (OpenSpec.ofChange peerStepsWrong)

/-- 'trunklinelaw20.PeerEnds': WHATEVER THE INPUT: true; the input reads as it did. -/
def peerEndsSpec : ChangeSpec := { name := "peerEnds", fn := fun _ => fun
  | [d1, d2] => { results := [.lit (.bool true)], args := [d1, d2] }
  | _ => none }
def peerEndsRow : OpenClaim := { program := "ytamemmbcdkhdhaa", sum := "e8cdde41516de56f7a8cec3406626a8d42dfa1cdec5315a6eac8b924a3d0bfba", func := "trunkline/trunklinelaw20.PeerEnds", spec := "peerEnds", apart := false }
def PeerEndsSaid : Prop := peerEndsRow.holds Try.pinned (OpenSpec.ofChange peerEndsSpec)

/-- ITS FALSE NEIGHBOUR: 'it returns false'. Refute it at one input. -/
def peerEndsWrong : ChangeSpec := { name := "peerEnds", fn := fun _ => fun
  | [d1, d2] => { results := [.lit (.bool false)], args := [d1, d2] }
  | _ => none }
def PeerEndsWrongFalsely : Prop := peerEndsRow.holds Try.pinned (OpenSpec.ofChange peerEndsWrong)

/-- 'trunklinelaw20.PeerKeeps': WHATEVER THE INPUT: true; the input reads as it did. -/
def peerKeepsSpec : ChangeSpec := { name := "peerKeeps", fn := fun _ => fun
  | [d1, d2, d3] => { results := [.lit (.bool true)], args := [d1, d2, d3] }
  | _ => none }
def peerKeepsRow : OpenClaim := { program := "ytamemmbcdkhdhaa", sum := "e8cdde41516de56f7a8cec3406626a8d42dfa1cdec5315a6eac8b924a3d0bfba", func := "trunkline/trunklinelaw20.PeerKeeps", spec := "peerKeeps", apart := false }
def PeerKeepsSaid : Prop := peerKeepsRow.holds Try.pinned (OpenSpec.ofChange peerKeepsSpec)

/-- ITS FALSE NEIGHBOUR: 'it returns false'. Refute it at one input. -/
def peerKeepsWrong : ChangeSpec := { name := "peerKeeps", fn := fun _ => fun
  | [d1, d2, d3] => { results := [.lit (.bool false)], args := [d1, d2, d3] }
  | _ => none }
def PeerKeepsWrongFalsely : Prop := peerKeepsRow.holds Try.pinned (OpenSpec.ofChange peerKeepsWrong)

/-- 'trunklinelaw20.PeerWins': WHATEVER THE INPUT: true; the input reads as it did. -/
def peerWinsSpec : ChangeSpec := { name := "peerWins", fn := fun _ => fun
  | [d1, d2] => { results := [.lit (.bool true)], args := [d1, d2] }
  | _ => none }
def peerWinsRow : OpenClaim := { program := "ytamemmbcdkhdhaa", sum := "e8cdde41516de56f7a8cec3406626a8d42dfa1cdec5315a6eac8b924a3d0bfba", func := "trunkline/trunklinelaw20.PeerWins", spec := "peerWins", inPlace := ["internal/bytealg.abigen_runtime_cmpstring"], apart := false }
def PeerWinsSaid : Prop := peerWinsRow.holds Try.pinned (OpenSpec.ofChange peerWinsSpec)

/-- ITS FALSE NEIGHBOUR: 'it returns false'. Refute it at one input. -/
def peerWinsWrong : ChangeSpec := { name := "peerWins", fn := fun _ => fun
  | [d1, d2] => { results := [.lit (.bool false)], args := [d1, d2] }
  | _ => none }
def PeerWinsWrongFalsely : Prop := peerWinsRow.holds Try.pinned (OpenSpec.ofChange peerWinsWrong)

/-- 'trunklinelaw20.PeerElects': WHATEVER THE INPUT: true; the input reads as it did. -/
def peerElectsSpec : ChangeSpec := { name := "peerElects", fn := fun _ => fun
  | [d1, d2, d3] => { results := [.lit (.bool true)], args := [d1, d2, d3] }
  | _ => none }
def peerElectsRow : OpenClaim := { program := "ytamemmbcdkhdhaa", sum := "e8cdde41516de56f7a8cec3406626a8d42dfa1cdec5315a6eac8b924a3d0bfba", func := "trunkline/trunklinelaw20.PeerElects", spec := "peerElects", inPlace := ["internal/bytealg.abigen_runtime_cmpstring"], unfollowed := true, recurses := true, apart := false }
def PeerElectsSaid : Prop := peerElectsRow.holds Try.pinned (OpenSpec.ofChange peerElectsSpec)

/-- ITS FALSE NEIGHBOUR: 'it returns false'. Refute it at one input. -/
def peerElectsWrong : ChangeSpec := { name := "peerElects", fn := fun _ => fun
  | [d1, d2, d3] => { results := [.lit (.bool false)], args := [d1, d2, d3] }
  | _ => none }
def PeerElectsWrongFalsely : Prop := peerElectsRow.holds Try.pinned (OpenSpec.ofChange peerElectsWrong)

/- THE SECOND FORM. 'bulk': how many values and letters a reading holds, each counted each time it is reached (what is shared counts as often as it is met; a slice's spare places count too). A statement '..UptoSaid' is the law's where the arguments, and the package variables that the reading takes, are together of bulk at most 1048576: NARROWER than '..Said'. Prove '..Said' where nothing that the law and all that it calls make is longer than what came in: it says more and counts as full. Else prove '..UptoSaid'. A law counts once. -/
mutual
def uptoBulk {H : Type} : DataW H → Nat
  | .lit (.string bytes) => bytes.length + 1
  | .lit _ => 1
  | .nil => 1
  | .ptr d => uptoBulk d + 1
  | .slice elems spare => uptoBulkAll elems + uptoBulkAll spare + 1
  | .agg parts => uptoBulkAll parts + 1
  | .iface _ d => uptoBulk d + 1
  | .map entries => uptoBulkEntries entries + 1
  | .held _ => 1
def uptoBulkAll {H : Type} : List (DataW H) → Nat
  | [] => 0
  | d :: r => uptoBulk d + uptoBulkAll r
def uptoBulkEntries {H : Type} : List (Lit × DataW H) → Nat
  | [] => 0
  | x :: r => uptoBulkEntry x + uptoBulkEntries r
def uptoBulkEntry {H : Type} : Lit × DataW H → Nat
  | (.string bytes, d) => bytes.length + uptoBulk d + 1
  | (_, d) => uptoBulk d + 1
 end
def uptoSmall : (H : Type) → List (DataW H) → Bool := fun _ ds => decide (uptoBulkAll ds ≤ 1048576)
def OpenSpec.upto (s : _root_.Go.ChangeSpec) : _root_.Go.OpenSpec := { _root_.Go.OpenSpec.ofChange s with cond := some uptoSmall }

/-- 'trunklinelaw20.PeerSteps', WHERE WHAT IT READS IS OF BULK AT MOST 1048576: true; the input reads as it did. -/
def peerStepsUptoRow : OpenClaim := { program := "ytamemmbcdkhdhaa", sum := "e8cdde41516de56f7a8cec3406626a8d42dfa1cdec5315a6eac8b924a3d0bfba", func := "trunkline/trunklinelaw20.PeerSteps", spec := "peerSteps", apart := false, narrowed := true }
def PeerStepsUptoSaid : Prop := peerStepsUptoRow.holds Try.pinned (OpenSpec.upto peerStepsSpec)

/-- 'trunklinelaw20.PeerEnds', WHERE WHAT IT READS IS OF BULK AT MOST 1048576: true; the input reads as it did. -/
def peerEndsUptoRow : OpenClaim := { program := "ytamemmbcdkhdhaa", sum := "e8cdde41516de56f7a8cec3406626a8d42dfa1cdec5315a6eac8b924a3d0bfba", func := "trunkline/trunklinelaw20.PeerEnds", spec := "peerEnds", apart := false, narrowed := true }
def PeerEndsUptoSaid : Prop := peerEndsUptoRow.holds Try.pinned (OpenSpec.upto peerEndsSpec)

/-- 'trunklinelaw20.PeerKeeps', WHERE WHAT IT READS IS OF BULK AT MOST 1048576: true; the input reads as it did. -/
def peerKeepsUptoRow : OpenClaim := { program := "ytamemmbcdkhdhaa", sum := "e8cdde41516de56f7a8cec3406626a8d42dfa1cdec5315a6eac8b924a3d0bfba", func := "trunkline/trunklinelaw20.PeerKeeps", spec := "peerKeeps", apart := false, narrowed := true }
def PeerKeepsUptoSaid : Prop := peerKeepsUptoRow.holds Try.pinned (OpenSpec.upto peerKeepsSpec)

/-- 'trunklinelaw20.PeerWins', WHERE WHAT IT READS IS OF BULK AT MOST 1048576: true; the input reads as it did. -/
def peerWinsUptoRow : OpenClaim := { program := "ytamemmbcdkhdhaa", sum := "e8cdde41516de56f7a8cec3406626a8d42dfa1cdec5315a6eac8b924a3d0bfba", func := "trunkline/trunklinelaw20.PeerWins", spec := "peerWins", inPlace := ["internal/bytealg.abigen_runtime_cmpstring"], apart := false, narrowed := true }
def PeerWinsUptoSaid : Prop := peerWinsUptoRow.holds Try.pinned (OpenSpec.upto peerWinsSpec)

/-- 'trunklinelaw20.PeerElects', WHERE WHAT IT READS IS OF BULK AT MOST 1048576: true; the input reads as it did. -/
def peerElectsUptoRow : OpenClaim := { program := "ytamemmbcdkhdhaa", sum := "e8cdde41516de56f7a8cec3406626a8d42dfa1cdec5315a6eac8b924a3d0bfba", func := "trunkline/trunklinelaw20.PeerElects", spec := "peerElects", inPlace := ["internal/bytealg.abigen_runtime_cmpstring"], unfollowed := true, recurses := true, apart := false, narrowed := true }
def PeerElectsUptoSaid : Prop := peerElectsUptoRow.holds Try.pinned (OpenSpec.upto peerElectsSpec)

end Rows
end Go.Proofs.Ytamemmbcdkhdhaa
