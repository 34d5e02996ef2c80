/-
  No cell of these rows narrows 'for every input' (looked for: loops, veiled, ifaces, maps, wideKeys, modest, calm, conditions, laid).
  DERIVED. THE GIVEN ROWS OF THIS SEAT. 3 by the template 'for every input the law returns true; each argument reads behind the call as it read before'; 0 by the template 'total and deterministic' (their statements: YtmbhiajhlfjknaaTotals.lean).
  GIVEN WITH THE SEED: the statements are not yours to turn. If you find one false, say at which input.
  Laid BY PROGRAM, IN A SANDBOX (cutbox-rows.mjs): the forced cells as the released guide's own fill.sh prints them over the translation 95d7253963099755… (all of the seat's roots in one cut). By AI agents, Wed Nov 11 2026. No macro, syntax, notation, axiom, sorry.
-/
import Derived.Test.YtmbhiajhlfjknaaChecked
import GoSem.Claim
import GoSem.ClaimJoined
import GoSem.ClaimMapViews
import Derived.JoinedTies
import Derived.KernelRfl
namespace Go.Proofs.Ytmbhiajhlfjknaa
/- THE CELL 'sum', in the pinned program and in every row, IS THE sha256 OF THE DUMP (.gsa) THAT YtmbhiajhlfjknaaProg.lean LOADS. Nothing in Lean hashes anything: it is a label: what it is worth is what the hold of that sum in a sandbox is worth. -/
noncomputable def Try.pinned : Pinned := { name := "ytmbhiajhlfjknaa", sum := "95d7253963099755b8d9fcf7c885a7f37400e6220f237c56511c017e413409d1", checked := Try.checked }
namespace Rows
def none {H : Type} : Left H := { results := [], args := [] }

/-- 'trunklinelaw22.DupKeeps': WHATEVER THE INPUT: true; the input reads as it did. -/
def dupKeepsSpec : ChangeSpec := { name := "dupKeeps", fn := fun _ => fun
  | [d1, d2, d3, d4, d5, d6, d7] => { results := [.lit (.bool true)], args := [d1, d2, d3, d4, d5, d6, d7] }
  | _ => none }
def dupKeepsRow : OpenClaim := { program := "ytmbhiajhlfjknaa", sum := "95d7253963099755b8d9fcf7c885a7f37400e6220f237c56511c017e413409d1", func := "trunkline/trunklinelaw22.DupKeeps", spec := "dupKeeps", unfollowed := true, recurses := true, apart := false }
def DupKeepsSaid : Prop := dupKeepsRow.holds Try.pinned (OpenSpec.ofChange dupKeepsSpec)

/-- ITS FALSE NEIGHBOUR: 'it returns false'. Refute it at one input. -/
def dupKeepsWrong : ChangeSpec := { name := "dupKeeps", fn := fun _ => fun
  | [d1, d2, d3, d4, d5, d6, d7] => { results := [.lit (.bool false)], args := [d1, d2, d3, d4, d5, d6, d7] }
  | _ => none }
def DupKeepsWrongFalsely : Prop := dupKeepsRow.holds Try.pinned (OpenSpec.ofChange dupKeepsWrong)

/-- 'trunklinelaw22.DupFull': WHATEVER THE INPUT: true; the input reads as it did. -/
def dupFullSpec : ChangeSpec := { name := "dupFull", fn := fun _ => fun
  | [d1, d2] => { results := [.lit (.bool true)], args := [d1, d2] }
  | _ => none }
def dupFullRow : OpenClaim := { program := "ytmbhiajhlfjknaa", sum := "95d7253963099755b8d9fcf7c885a7f37400e6220f237c56511c017e413409d1", func := "trunkline/trunklinelaw22.DupFull", spec := "dupFull", unfollowed := true, recurses := true, apart := false }
def DupFullSaid : Prop := dupFullRow.holds Try.pinned (OpenSpec.ofChange dupFullSpec)

/-- ITS FALSE NEIGHBOUR: 'it returns false'. Refute it at one input. -/
def dupFullWrong : ChangeSpec := { name := "dupFull", fn := fun _ => fun
  | [d1, d2] => { results := [.lit (.bool false)], args := [d1, d2] }
  | _ => none }
def DupFullWrongFalsely : Prop := dupFullRow.holds Try.pinned (OpenSpec.ofChange dupFullWrong)

/-- 'trunklinelaw22.DupNil': WHATEVER THE INPUT: true; the input reads as it did. -/
def dupNilSpec : ChangeSpec := { name := "dupNil", fn := fun _ => fun
  | [d1, d2, d3] => { results := [.lit (.bool true)], args := [d1, d2, d3] }
  | _ => none }
def dupNilRow : OpenClaim := { program := "ytmbhiajhlfjknaa", sum := "95d7253963099755b8d9fcf7c885a7f37400e6220f237c56511c017e413409d1", func := "trunkline/trunklinelaw22.DupNil", spec := "dupNil", unfollowed := true, recurses := true, apart := false }
def DupNilSaid : Prop := dupNilRow.holds Try.pinned (OpenSpec.ofChange dupNilSpec)

/-- ITS FALSE NEIGHBOUR: 'it returns false'. Refute it at one input. -/
def dupNilWrong : ChangeSpec := { name := "dupNil", fn := fun _ => fun
  | [d1, d2, d3] => { results := [.lit (.bool false)], args := [d1, d2, d3] }
  | _ => none }
def DupNilWrongFalsely : Prop := dupNilRow.holds Try.pinned (OpenSpec.ofChange dupNilWrong)

/- THE SECOND FORM. 'bulk': how many values and letters a reading holds, each counted each time it is reached (what is shared counts as often as it is met; a slice's spare places count too). A statement '..UptoSaid' is the law's where the arguments, and the package variables that the reading takes, are together of bulk at most 1048576: NARROWER than '..Said'. Prove '..Said' where nothing that the law and all that it calls make is longer than what came in: it says more and counts as full. Else prove '..UptoSaid'. A law counts once. -/
mutual
def uptoBulk {H : Type} : DataW H → Nat
  | .lit (.string bytes) => bytes.length + 1
  | .lit _ => 1
  | .nil => 1
  | .ptr d => uptoBulk d + 1
  | .slice elems spare => uptoBulkAll elems + uptoBulkAll spare + 1
  | .agg parts => uptoBulkAll parts + 1
  | .iface _ d => uptoBulk d + 1
  | .map entries => uptoBulkEntries entries + 1
  | .held _ => 1
def uptoBulkAll {H : Type} : List (DataW H) → Nat
  | [] => 0
  | d :: r => uptoBulk d + uptoBulkAll r
def uptoBulkEntries {H : Type} : List (Lit × DataW H) → Nat
  | [] => 0
  | x :: r => uptoBulkEntry x + uptoBulkEntries r
def uptoBulkEntry {H : Type} : Lit × DataW H → Nat
  | (.string bytes, d) => bytes.length + uptoBulk d + 1
  | (_, d) => uptoBulk d + 1
 end
def uptoSmall : (H : Type) → List (DataW H) → Bool := fun _ ds => decide (uptoBulkAll ds ≤ 1048576)
def OpenSpec.upto (s : _root_.Go.ChangeSpec) : _root_.Go.OpenSpec := { _root_.Go.OpenSpec.ofChange s with cond := some uptoSmall }

/-- 'trunklinelaw22.DupKeeps', WHERE WHAT IT READS IS OF BULK AT MOST 1048576: true; the input reads as it did. -/
def dupKeepsUptoRow : OpenClaim := { program := "ytmbhiajhlfjknaa", sum := "95d7253963099755b8d9fcf7c885a7f37400e6220f237c56511c017e413409d1", func := "trunkline/trunklinelaw22.DupKeeps", spec := "dupKeeps", unfollowed := true, recurses := true, apart := false, narrowed := true }
def DupKeepsUptoSaid : Prop := dupKeepsUptoRow.holds Try.pinned (OpenSpec.upto dupKeepsSpec)

/-- 'trunklinelaw22.DupFull', WHERE WHAT IT READS IS OF BULK AT MOST 1048576: true; the input reads as it did. -/
def dupFullUptoRow : OpenClaim := { program := "ytmbhiajhlfjknaa", sum := "95d7253963099755b8d9fcf7c885a7f37400e6220f237c56511c017e413409d1", func := "trunkline/trunklinelaw22.DupFull", spec := "dupFull", unfollowed := true, recurses := true, apart := false, narrowed := true }
def DupFullUptoSaid : Prop := dupFullUptoRow.holds Try.pinned (OpenSpec.upto dupFullSpec)

/-- 'trunklinelaw22.DupNil', WHERE WHAT IT READS IS OF BULK AT MOST 1048576: true; the input reads as it did. -/
def dupNilUptoRow : OpenClaim := { program := "ytmbhiajhlfjknaa", sum := "95d7253963099755b8d9fcf7c885a7f37400e6220f237c56511c017e413409d1", func := "trunkline/trunklinelaw22.DupNil", spec := "dupNil", unfollowed := true, recurses := true, apart := false, narrowed := true }
def DupNilUptoSaid : Prop := dupNilUptoRow.holds Try.pinned (OpenSpec.upto dupNilSpec)

end Rows
end Go.Proofs.Ytmbhiajhlfjknaa
