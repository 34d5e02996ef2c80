/-
  No cell of these rows narrows 'for every input' (looked for: loops, veiled, ifaces, maps, wideKeys, modest, calm, conditions, laid).
  DERIVED. THE GIVEN ROWS OF THIS SEAT. 5 by the template 'for every input the law returns true; each argument reads behind the call as it read before'; 0 by the template 'total and deterministic' (their statements: YtjfponhdlfhmbaaTotals.lean).
  GIVEN WITH THE SEED: the statements are not yours to turn. If you find one false, say at which input.
  Laid BY PROGRAM, IN A SANDBOX (cutbox-rows.mjs): the forced cells as the released guide's own fill.sh prints them over the translation a7b81fba27f93165… (all of the seat's roots in one cut). By AI agents, Wed Nov 11 2026. No macro, syntax, notation, axiom, sorry.
-/
import Derived.Test.YtjfponhdlfhmbaaChecked
import GoSem.Claim
import GoSem.ClaimJoined
import GoSem.ClaimMapViews
import Derived.JoinedTies
import Derived.KernelRfl
namespace Go.Proofs.Ytjfponhdlfhmbaa
/- THE CELL 'sum', in the pinned program and in every row, IS THE sha256 OF THE DUMP (.gsa) THAT YtjfponhdlfhmbaaProg.lean LOADS. Nothing in Lean hashes anything: it is a label: what it is worth is what the hold of that sum in a sandbox is worth. -/
noncomputable def Try.pinned : Pinned := { name := "ytjfponhdlfhmbaa", sum := "a7b81fba27f93165084749cf129cbdcca83d5e3fa8faed2d09914c0a9bc3e965", checked := Try.checked }
namespace Rows
def none {H : Type} : Left H := { results := [], args := [] }

/-- 'trunklinelaw16.AvpPuts': WHATEVER THE INPUT: true; the input reads as it did. -/
def avpPutsSpec : ChangeSpec := { name := "avpPuts", fn := fun _ => fun
  | [d] => { results := [.lit (.bool true)], args := [d] }
  | _ => none }
def avpPutsRow : OpenClaim := { program := "ytjfponhdlfhmbaa", sum := "a7b81fba27f93165084749cf129cbdcca83d5e3fa8faed2d09914c0a9bc3e965", func := "trunkline/trunklinelaw16.AvpPuts", spec := "avpPuts", apart := false }
def AvpPutsSaid : Prop := avpPutsRow.holds Try.pinned (OpenSpec.ofChange avpPutsSpec)

/-- ITS FALSE NEIGHBOUR: 'it returns false'. Refute it at one input. -/
def avpPutsWrong : ChangeSpec := { name := "avpPuts", fn := fun _ => fun
  | [d] => { results := [.lit (.bool false)], args := [d] }
  | _ => none }
def AvpPutsWrongFalsely : Prop := avpPutsRow.holds Try.pinned (OpenSpec.ofChange avpPutsWrong)

/-- 'trunklinelaw16.AvpGets': WHATEVER THE INPUT: true; the input reads as it did. -/
def avpGetsSpec : ChangeSpec := { name := "avpGets", fn := fun _ => fun
  | [d] => { results := [.lit (.bool true)], args := [d] }
  | _ => none }
def avpGetsRow : OpenClaim := { program := "ytjfponhdlfhmbaa", sum := "a7b81fba27f93165084749cf129cbdcca83d5e3fa8faed2d09914c0a9bc3e965", func := "trunkline/trunklinelaw16.AvpGets", spec := "avpGets", apart := false }
def AvpGetsSaid : Prop := avpGetsRow.holds Try.pinned (OpenSpec.ofChange avpGetsSpec)

/-- ITS FALSE NEIGHBOUR: 'it returns false'. Refute it at one input. -/
def avpGetsWrong : ChangeSpec := { name := "avpGets", fn := fun _ => fun
  | [d] => { results := [.lit (.bool false)], args := [d] }
  | _ => none }
def AvpGetsWrongFalsely : Prop := avpGetsRow.holds Try.pinned (OpenSpec.ofChange avpGetsWrong)

/-- 'trunklinelaw16.AvpBack': WHATEVER THE INPUT: true; the input reads as it did. -/
def avpBackSpec : ChangeSpec := { name := "avpBack", fn := fun _ => fun
  | [d1, d2, d3] => { results := [.lit (.bool true)], args := [d1, d2, d3] }
  | _ => none }
def avpBackRow : OpenClaim := { program := "ytjfponhdlfhmbaa", sum := "a7b81fba27f93165084749cf129cbdcca83d5e3fa8faed2d09914c0a9bc3e965", func := "trunkline/trunklinelaw16.AvpBack", spec := "avpBack", apart := false }
def AvpBackSaid : Prop := avpBackRow.holds Try.pinned (OpenSpec.ofChange avpBackSpec)

/-- ITS FALSE NEIGHBOUR: 'it returns false'. Refute it at one input. -/
def avpBackWrong : ChangeSpec := { name := "avpBack", fn := fun _ => fun
  | [d1, d2, d3] => { results := [.lit (.bool false)], args := [d1, d2, d3] }
  | _ => none }
def AvpBackWrongFalsely : Prop := avpBackRow.holds Try.pinned (OpenSpec.ofChange avpBackWrong)

/-- 'trunklinelaw16.AvpReserved': WHATEVER THE INPUT: true; the input reads as it did. -/
def avpReservedSpec : ChangeSpec := { name := "avpReserved", fn := fun _ => fun
  | [d1, d2, d3] => { results := [.lit (.bool true)], args := [d1, d2, d3] }
  | _ => none }
def avpReservedRow : OpenClaim := { program := "ytjfponhdlfhmbaa", sum := "a7b81fba27f93165084749cf129cbdcca83d5e3fa8faed2d09914c0a9bc3e965", func := "trunkline/trunklinelaw16.AvpReserved", spec := "avpReserved", apart := false }
def AvpReservedSaid : Prop := avpReservedRow.holds Try.pinned (OpenSpec.ofChange avpReservedSpec)

/-- ITS FALSE NEIGHBOUR: 'it returns false'. Refute it at one input. -/
def avpReservedWrong : ChangeSpec := { name := "avpReserved", fn := fun _ => fun
  | [d1, d2, d3] => { results := [.lit (.bool false)], args := [d1, d2, d3] }
  | _ => none }
def AvpReservedWrongFalsely : Prop := avpReservedRow.holds Try.pinned (OpenSpec.ofChange avpReservedWrong)

/-- 'trunklinelaw16.AvpDeep': WHATEVER THE INPUT: true; the input reads as it did. -/
def avpDeepSpec : ChangeSpec := { name := "avpDeep", fn := fun _ => fun
  | [d1, d2, d3] => { results := [.lit (.bool true)], args := [d1, d2, d3] }
  | _ => none }
def avpDeepRow : OpenClaim := { program := "ytjfponhdlfhmbaa", sum := "a7b81fba27f93165084749cf129cbdcca83d5e3fa8faed2d09914c0a9bc3e965", func := "trunkline/trunklinelaw16.AvpDeep", spec := "avpDeep", unfollowed := true, recurses := true, apart := false }
def AvpDeepSaid : Prop := avpDeepRow.holds Try.pinned (OpenSpec.ofChange avpDeepSpec)

/-- ITS FALSE NEIGHBOUR: 'it returns false'. Refute it at one input. -/
def avpDeepWrong : ChangeSpec := { name := "avpDeep", fn := fun _ => fun
  | [d1, d2, d3] => { results := [.lit (.bool false)], args := [d1, d2, d3] }
  | _ => none }
def AvpDeepWrongFalsely : Prop := avpDeepRow.holds Try.pinned (OpenSpec.ofChange avpDeepWrong)

/- THE SECOND FORM. 'bulk': how many values and letters a reading holds, each counted each time it is reached (what is shared counts as often as it is met; a slice's spare places count too). A statement '..UptoSaid' is the law's where the arguments, and the package variables that the reading takes, are together of bulk at most 1048576: NARROWER than '..Said'. Prove '..Said' where nothing that the law and all that it calls make is longer than what came in: it says more and counts as full. Else prove '..UptoSaid'. A law counts once. -/
mutual
def uptoBulk {H : Type} : DataW H → Nat
  | .lit (.string bytes) => bytes.length + 1
  | .lit _ => 1
  | .nil => 1
  | .ptr d => uptoBulk d + 1
  | .slice elems spare => uptoBulkAll elems + uptoBulkAll spare + 1
  | .agg parts => uptoBulkAll parts + 1
  | .iface _ d => uptoBulk d + 1
  | .map entries => uptoBulkEntries entries + 1
  | .held _ => 1
def uptoBulkAll {H : Type} : List (DataW H) → Nat
  | [] => 0
  | d :: r => uptoBulk d + uptoBulkAll r
def uptoBulkEntries {H : Type} : List (Lit × DataW H) → Nat
  | [] => 0
  | x :: r => uptoBulkEntry x + uptoBulkEntries r
def uptoBulkEntry {H : Type} : Lit × DataW H → Nat
  | (.string bytes, d) => bytes.length + uptoBulk d + 1
  | (_, d) => uptoBulk d + 1
 end
def uptoSmall : (H : Type) → List (DataW H) → Bool := fun _ ds => decide (uptoBulkAll ds ≤ 1048576)
def OpenSpec.upto (s : _root_.Go.ChangeSpec) : _root_.Go.OpenSpec := { _root_.Go.OpenSpec.ofChange s with cond := some uptoSmall }

/-- 'trunklinelaw16.AvpPuts', WHERE WHAT IT READS IS OF BULK AT MOST 1048576: true; the input reads as it did. -/
def avpPutsUptoRow : OpenClaim := { program := "ytjfponhdlfhmbaa", sum := "a7b81fba27f93165084749cf129cbdcca83d5e3fa8faed2d09914c0a9bc3e965", func := "trunkline/trunklinelaw16.AvpPuts", spec := "avpPuts", apart := false, narrowed := true }
def AvpPutsUptoSaid : Prop := avpPutsUptoRow.holds Try.pinned (OpenSpec.upto avpPutsSpec)

/-- 'trunklinelaw16.AvpGets', WHERE WHAT IT READS IS OF BULK AT MOST 1048576: true; the input reads as it did. -/
def avpGetsUptoRow : OpenClaim := { program := "ytjfponhdlfhmbaa", sum := "a7b81fba27f93165084749cf129cbdcca83d5e3fa8faed2d09914c0a9bc3e965", func := "trunkline/trunklinelaw16.AvpGets", spec := "avpGets", apart := false, narrowed := true }
def AvpGetsUptoSaid : Prop := avpGetsUptoRow.holds Try.pinned (OpenSpec.upto avpGetsSpec)

/-- 'trunklinelaw16.AvpBack', WHERE WHAT IT READS IS OF BULK AT MOST 1048576: true; the input reads as it did. -/
def avpBackUptoRow : OpenClaim := { program := "ytjfponhdlfhmbaa", sum := "a7b81fba27f93165084749cf129cbdcca83d5e3fa8faed2d09914c0a9bc3e965", func := "trunkline/trunklinelaw16.AvpBack", spec := "avpBack", apart := false, narrowed := true }
def AvpBackUptoSaid : Prop := avpBackUptoRow.holds Try.pinned (OpenSpec.upto avpBackSpec)

/-- 'trunklinelaw16.AvpReserved', WHERE WHAT IT READS IS OF BULK AT MOST 1048576: true; the input reads as it did. -/
def avpReservedUptoRow : OpenClaim := { program := "ytjfponhdlfhmbaa", sum := "a7b81fba27f93165084749cf129cbdcca83d5e3fa8faed2d09914c0a9bc3e965", func := "trunkline/trunklinelaw16.AvpReserved", spec := "avpReserved", apart := false, narrowed := true }
def AvpReservedUptoSaid : Prop := avpReservedUptoRow.holds Try.pinned (OpenSpec.upto avpReservedSpec)

/-- 'trunklinelaw16.AvpDeep', WHERE WHAT IT READS IS OF BULK AT MOST 1048576: true; the input reads as it did. -/
def avpDeepUptoRow : OpenClaim := { program := "ytjfponhdlfhmbaa", sum := "a7b81fba27f93165084749cf129cbdcca83d5e3fa8faed2d09914c0a9bc3e965", func := "trunkline/trunklinelaw16.AvpDeep", spec := "avpDeep", unfollowed := true, recurses := true, apart := false, narrowed := true }
def AvpDeepUptoSaid : Prop := avpDeepUptoRow.holds Try.pinned (OpenSpec.upto avpDeepSpec)

end Rows
end Go.Proofs.Ytjfponhdlfhmbaa
