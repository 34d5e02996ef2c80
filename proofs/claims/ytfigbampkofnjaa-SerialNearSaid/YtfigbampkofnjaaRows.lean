/-
  No cell of these rows narrows 'for every input' (looked for: loops, veiled, ifaces, maps, wideKeys, modest, calm, conditions, laid).
  DERIVED. THE GIVEN ROWS OF THIS SEAT. 6 by the template 'for every input the law returns true; each argument reads behind the call as it read before'; 0 by the template 'total and deterministic' (their statements: YtfigbampkofnjaaTotals.lean).
  GIVEN WITH THE SEED: the statements are not yours to turn. If you find one false, say at which input.
  Laid BY PROGRAM, IN A SANDBOX (cutbox-rows.mjs): the forced cells as the released guide's own fill.sh prints them over the translation d1af28ac8d032e42… (all of the seat's roots in one cut). By AI agents, Wed Nov 11 2026. No macro, syntax, notation, axiom, sorry.
-/
import Derived.Test.YtfigbampkofnjaaChecked
import GoSem.Claim
import GoSem.ClaimJoined
import GoSem.ClaimMapViews
import Derived.JoinedTies
import Derived.KernelRfl
namespace Go.Proofs.Ytfigbampkofnjaa
/- THE CELL 'sum', in the pinned program and in every row, IS THE sha256 OF THE DUMP (.gsa) THAT YtfigbampkofnjaaProg.lean LOADS. Nothing in Lean hashes anything: it is a label: what it is worth is what the hold of that sum in a sandbox is worth. -/
noncomputable def Try.pinned : Pinned := { name := "ytfigbampkofnjaa", sum := "d1af28ac8d032e4208045d782121cfc0f9e56de8da4095b0c3e094e17cc88929", checked := Try.checked }
namespace Rows
def none {H : Type} : Left H := { results := [], args := [] }

/-- 'trunklinelaw02.SerialOrders': WHATEVER THE INPUT: true; the input reads as it did. -/
def serialOrdersSpec : ChangeSpec := { name := "serialOrders", fn := fun _ => fun
  | [d1, d2, d3, d4] => { results := [.lit (.bool true)], args := [d1, d2, d3, d4] }
  | _ => none }
def serialOrdersRow : OpenClaim := { program := "ytfigbampkofnjaa", sum := "d1af28ac8d032e4208045d782121cfc0f9e56de8da4095b0c3e094e17cc88929", func := "trunkline/trunklinelaw02.SerialOrders", spec := "serialOrders", apart := false }
def SerialOrdersSaid : Prop := serialOrdersRow.holds Try.pinned (OpenSpec.ofChange serialOrdersSpec)

/-- ITS FALSE NEIGHBOUR: 'it returns false'. Refute it at one input. -/
def serialOrdersWrong : ChangeSpec := { name := "serialOrders", fn := fun _ => fun
  | [d1, d2, d3, d4] => { results := [.lit (.bool false)], args := [d1, d2, d3, d4] }
  | _ => none }
def SerialOrdersWrongFalsely : Prop := serialOrdersRow.holds Try.pinned (OpenSpec.ofChange serialOrdersWrong)

/-- 'trunklinelaw02.SerialWithin': WHATEVER THE INPUT: true; the input reads as it did. -/
def serialWithinSpec : ChangeSpec := { name := "serialWithin", fn := fun _ => fun
  | [d1, d2, d3] => { results := [.lit (.bool true)], args := [d1, d2, d3] }
  | _ => none }
def serialWithinRow : OpenClaim := { program := "ytfigbampkofnjaa", sum := "d1af28ac8d032e4208045d782121cfc0f9e56de8da4095b0c3e094e17cc88929", func := "trunkline/trunklinelaw02.SerialWithin", spec := "serialWithin", apart := false }
def SerialWithinSaid : Prop := serialWithinRow.holds Try.pinned (OpenSpec.ofChange serialWithinSpec)

/-- ITS FALSE NEIGHBOUR: 'it returns false'. Refute it at one input. -/
def serialWithinWrong : ChangeSpec := { name := "serialWithin", fn := fun _ => fun
  | [d1, d2, d3] => { results := [.lit (.bool false)], args := [d1, d2, d3] }
  | _ => none }
def SerialWithinWrongFalsely : Prop := serialWithinRow.holds Try.pinned (OpenSpec.ofChange serialWithinWrong)

/-- 'trunklinelaw02.SerialTurns': WHATEVER THE INPUT: true; the input reads as it did. -/
def serialTurnsSpec : ChangeSpec := { name := "serialTurns", fn := fun _ => fun
  | [d1, d2, d3] => { results := [.lit (.bool true)], args := [d1, d2, d3] }
  | _ => none }
def serialTurnsRow : OpenClaim := { program := "ytfigbampkofnjaa", sum := "d1af28ac8d032e4208045d782121cfc0f9e56de8da4095b0c3e094e17cc88929", func := "trunkline/trunklinelaw02.SerialTurns", spec := "serialTurns", apart := false }
def SerialTurnsSaid : Prop := serialTurnsRow.holds Try.pinned (OpenSpec.ofChange serialTurnsSpec)

/-- ITS FALSE NEIGHBOUR: 'it returns false'. Refute it at one input. -/
def serialTurnsWrong : ChangeSpec := { name := "serialTurns", fn := fun _ => fun
  | [d1, d2, d3] => { results := [.lit (.bool false)], args := [d1, d2, d3] }
  | _ => none }
def SerialTurnsWrongFalsely : Prop := serialTurnsRow.holds Try.pinned (OpenSpec.ofChange serialTurnsWrong)

/-- 'trunklinelaw02.SerialStretch': WHATEVER THE INPUT: true; the input reads as it did. -/
def serialStretchSpec : ChangeSpec := { name := "serialStretch", fn := fun _ => fun
  | [d1, d2, d3] => { results := [.lit (.bool true)], args := [d1, d2, d3] }
  | _ => none }
def serialStretchRow : OpenClaim := { program := "ytfigbampkofnjaa", sum := "d1af28ac8d032e4208045d782121cfc0f9e56de8da4095b0c3e094e17cc88929", func := "trunkline/trunklinelaw02.SerialStretch", spec := "serialStretch", apart := false }
def SerialStretchSaid : Prop := serialStretchRow.holds Try.pinned (OpenSpec.ofChange serialStretchSpec)

/-- ITS FALSE NEIGHBOUR: 'it returns false'. Refute it at one input. -/
def serialStretchWrong : ChangeSpec := { name := "serialStretch", fn := fun _ => fun
  | [d1, d2, d3] => { results := [.lit (.bool false)], args := [d1, d2, d3] }
  | _ => none }
def SerialStretchWrongFalsely : Prop := serialStretchRow.holds Try.pinned (OpenSpec.ofChange serialStretchWrong)

/-- 'trunklinelaw02.SerialWide': WHATEVER THE INPUT: true; the input reads as it did. -/
def serialWideSpec : ChangeSpec := { name := "serialWide", fn := fun _ => fun
  | [d1, d2] => { results := [.lit (.bool true)], args := [d1, d2] }
  | _ => none }
def serialWideRow : OpenClaim := { program := "ytfigbampkofnjaa", sum := "d1af28ac8d032e4208045d782121cfc0f9e56de8da4095b0c3e094e17cc88929", func := "trunkline/trunklinelaw02.SerialWide", spec := "serialWide", unfollowed := true, recurses := true, apart := false }
def SerialWideSaid : Prop := serialWideRow.holds Try.pinned (OpenSpec.ofChange serialWideSpec)

/-- ITS FALSE NEIGHBOUR: 'it returns false'. Refute it at one input. -/
def serialWideWrong : ChangeSpec := { name := "serialWide", fn := fun _ => fun
  | [d1, d2] => { results := [.lit (.bool false)], args := [d1, d2] }
  | _ => none }
def SerialWideWrongFalsely : Prop := serialWideRow.holds Try.pinned (OpenSpec.ofChange serialWideWrong)

/-- 'trunklinelaw02.SerialNear': WHATEVER THE INPUT: true; the input reads as it did. -/
def serialNearSpec : ChangeSpec := { name := "serialNear", fn := fun _ => fun
  | [d1, d2, d3] => { results := [.lit (.bool true)], args := [d1, d2, d3] }
  | _ => none }
def serialNearRow : OpenClaim := { program := "ytfigbampkofnjaa", sum := "d1af28ac8d032e4208045d782121cfc0f9e56de8da4095b0c3e094e17cc88929", func := "trunkline/trunklinelaw02.SerialNear", spec := "serialNear", unfollowed := true, recurses := true, apart := false }
def SerialNearSaid : Prop := serialNearRow.holds Try.pinned (OpenSpec.ofChange serialNearSpec)

/-- ITS FALSE NEIGHBOUR: 'it returns false'. Refute it at one input. -/
def serialNearWrong : ChangeSpec := { name := "serialNear", fn := fun _ => fun
  | [d1, d2, d3] => { results := [.lit (.bool false)], args := [d1, d2, d3] }
  | _ => none }
def SerialNearWrongFalsely : Prop := serialNearRow.holds Try.pinned (OpenSpec.ofChange serialNearWrong)

/- THE SECOND FORM. 'bulk': how many values and letters a reading holds, each counted each time it is reached (what is shared counts as often as it is met; a slice's spare places count too). A statement '..UptoSaid' is the law's where the arguments, and the package variables that the reading takes, are together of bulk at most 1048576: NARROWER than '..Said'. Prove '..Said' where nothing that the law and all that it calls make is longer than what came in: it says more and counts as full. Else prove '..UptoSaid'. A law counts once. -/
mutual
def uptoBulk {H : Type} : DataW H → Nat
  | .lit (.string bytes) => bytes.length + 1
  | .lit _ => 1
  | .nil => 1
  | .ptr d => uptoBulk d + 1
  | .slice elems spare => uptoBulkAll elems + uptoBulkAll spare + 1
  | .agg parts => uptoBulkAll parts + 1
  | .iface _ d => uptoBulk d + 1
  | .map entries => uptoBulkEntries entries + 1
  | .held _ => 1
def uptoBulkAll {H : Type} : List (DataW H) → Nat
  | [] => 0
  | d :: r => uptoBulk d + uptoBulkAll r
def uptoBulkEntries {H : Type} : List (Lit × DataW H) → Nat
  | [] => 0
  | x :: r => uptoBulkEntry x + uptoBulkEntries r
def uptoBulkEntry {H : Type} : Lit × DataW H → Nat
  | (.string bytes, d) => bytes.length + uptoBulk d + 1
  | (_, d) => uptoBulk d + 1
 end
def uptoSmall : (H : Type) → List (DataW H) → Bool := fun _ ds => decide (uptoBulkAll ds ≤ 1048576)
def OpenSpec.upto (s : _root_.Go.ChangeSpec) : _root_.Go.OpenSpec := { _root_.Go.OpenSpec.ofChange s with cond := some uptoSmall }

/-- 'trunklinelaw02.SerialOrders', WHERE WHAT IT READS IS OF BULK AT MOST 1048576: true; the input reads as it did. -/
def serialOrdersUptoRow : OpenClaim := { program := "ytfigbampkofnjaa", sum := "d1af28ac8d032e4208045d782121cfc0f9e56de8da4095b0c3e094e17cc88929", func := "trunkline/trunklinelaw02.SerialOrders", spec := "serialOrders", apart := false, narrowed := true }
def SerialOrdersUptoSaid : Prop := serialOrdersUptoRow.holds Try.pinned (OpenSpec.upto serialOrdersSpec)

/-- 'trunklinelaw02.SerialWithin', WHERE WHAT IT READS IS OF BULK AT MOST 1048576: true; the input reads as it did. -/
def serialWithinUptoRow : OpenClaim := { program := "ytfigbampkofnjaa", sum := "d1af28ac8d032e4208045d782121cfc0f9e56de8da4095b0c3e094e17cc88929", func := "trunkline/trunklinelaw02.SerialWithin", spec := "serialWithin", apart := false, narrowed := true }
def SerialWithinUptoSaid : Prop := serialWithinUptoRow.holds Try.pinned (OpenSpec.upto serialWithinSpec)

/-- 'trunklinelaw02.SerialTurns', WHERE WHAT IT READS IS OF BULK AT MOST 1048576: true; the input reads as it did. -/
def serialTurnsUptoRow : OpenClaim := { program := "ytfigbampkofnjaa", sum := "d1af28ac8d032e4208045d782121cfc0f9e56de8da4095b0c3e094e17cc88929", func := "trunkline/trunklinelaw02.SerialTurns", spec := "serialTurns", apart := false, narrowed := true }
def SerialTurnsUptoSaid : Prop := serialTurnsUptoRow.holds Try.pinned (OpenSpec.upto serialTurnsSpec)

/-- 'trunklinelaw02.SerialStretch', WHERE WHAT IT READS IS OF BULK AT MOST 1048576: true; the input reads as it did. -/
def serialStretchUptoRow : OpenClaim := { program := "ytfigbampkofnjaa", sum := "d1af28ac8d032e4208045d782121cfc0f9e56de8da4095b0c3e094e17cc88929", func := "trunkline/trunklinelaw02.SerialStretch", spec := "serialStretch", apart := false, narrowed := true }
def SerialStretchUptoSaid : Prop := serialStretchUptoRow.holds Try.pinned (OpenSpec.upto serialStretchSpec)

/-- 'trunklinelaw02.SerialWide', WHERE WHAT IT READS IS OF BULK AT MOST 1048576: true; the input reads as it did. -/
def serialWideUptoRow : OpenClaim := { program := "ytfigbampkofnjaa", sum := "d1af28ac8d032e4208045d782121cfc0f9e56de8da4095b0c3e094e17cc88929", func := "trunkline/trunklinelaw02.SerialWide", spec := "serialWide", unfollowed := true, recurses := true, apart := false, narrowed := true }
def SerialWideUptoSaid : Prop := serialWideUptoRow.holds Try.pinned (OpenSpec.upto serialWideSpec)

/-- 'trunklinelaw02.SerialNear', WHERE WHAT IT READS IS OF BULK AT MOST 1048576: true; the input reads as it did. -/
def serialNearUptoRow : OpenClaim := { program := "ytfigbampkofnjaa", sum := "d1af28ac8d032e4208045d782121cfc0f9e56de8da4095b0c3e094e17cc88929", func := "trunkline/trunklinelaw02.SerialNear", spec := "serialNear", unfollowed := true, recurses := true, apart := false, narrowed := true }
def SerialNearUptoSaid : Prop := serialNearUptoRow.holds Try.pinned (OpenSpec.upto serialNearSpec)

end Rows
end Go.Proofs.Ytfigbampkofnjaa
