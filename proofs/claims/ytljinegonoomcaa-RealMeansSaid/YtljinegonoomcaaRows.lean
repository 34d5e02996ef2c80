/-
  No cell of these rows narrows 'for every input' (looked for: loops, veiled, ifaces, maps, wideKeys, modest, calm, conditions, laid).
  DERIVED. THE GIVEN ROWS OF THIS SEAT. 5 by the template 'for every input the law returns true; each argument reads behind the call as it read before'; 0 by the template 'total and deterministic' (their statements: YtljinegonoomcaaTotals.lean).
  GIVEN WITH THE SEED: the statements are not yours to turn. If you find one false, say at which input.
  Laid BY PROGRAM, IN A SANDBOX (cutbox-rows.mjs): the forced cells as the released guide's own fill.sh prints them over the translation 05b708a5432f5173… (all of the seat's roots in one cut). By AI agents, Wed Nov 11 2026. No macro, syntax, notation, axiom, sorry.
-/
import Derived.Test.YtljinegonoomcaaChecked
import GoSem.Claim
import GoSem.ClaimJoined
import GoSem.ClaimMapViews
import Derived.JoinedTies
import Derived.KernelRfl
namespace Go.Proofs.Ytljinegonoomcaa
/- THE CELL 'sum', in the pinned program and in every row, IS THE sha256 OF THE DUMP (.gsa) THAT YtljinegonoomcaaProg.lean LOADS. Nothing in Lean hashes anything: it is a label: what it is worth is what the hold of that sum in a sandbox is worth. -/
noncomputable def Try.pinned : Pinned := { name := "ytljinegonoomcaa", sum := "05b708a5432f5173060bf5b7aa75b370dfd2558bbee696a48734f2178aa5085f", checked := Try.checked }
namespace Rows
def none {H : Type} : Left H := { results := [], args := [] }

/-- 'trunklinelaw04.RealOrders': WHATEVER THE INPUT: true; the input reads as it did. -/
def realOrdersSpec : ChangeSpec := { name := "realOrders", fn := fun _ => fun
  | [d1, d2] => { results := [.lit (.bool true)], args := [d1, d2] }
  | _ => none }
def realOrdersRow : OpenClaim := { program := "ytljinegonoomcaa", sum := "05b708a5432f5173060bf5b7aa75b370dfd2558bbee696a48734f2178aa5085f", func := "trunkline/trunklinelaw04.RealOrders", spec := "realOrders", inPlace := ["math.Float64frombits", "math.Float64bits", "math.Float32bits"], apart := false }
def RealOrdersSaid : Prop := realOrdersRow.holds Try.pinned (OpenSpec.ofChange realOrdersSpec)

/-- ITS FALSE NEIGHBOUR: 'it returns false'. Refute it at one input. -/
def realOrdersWrong : ChangeSpec := { name := "realOrders", fn := fun _ => fun
  | [d1, d2] => { results := [.lit (.bool false)], args := [d1, d2] }
  | _ => none }
def RealOrdersWrongFalsely : Prop := realOrdersRow.holds Try.pinned (OpenSpec.ofChange realOrdersWrong)

/-- 'trunklinelaw04.RealSorts': WHATEVER THE INPUT: true; the input reads as it did. -/
def realSortsSpec : ChangeSpec := { name := "realSorts", fn := fun _ => fun
  | [d1, d2, d3] => { results := [.lit (.bool true)], args := [d1, d2, d3] }
  | _ => none }
def realSortsRow : OpenClaim := { program := "ytljinegonoomcaa", sum := "05b708a5432f5173060bf5b7aa75b370dfd2558bbee696a48734f2178aa5085f", func := "trunkline/trunklinelaw04.RealSorts", spec := "realSorts", inPlace := ["math.Float64frombits", "math.Float32bits", "math.Float64bits"], apart := false }
def RealSortsSaid : Prop := realSortsRow.holds Try.pinned (OpenSpec.ofChange realSortsSpec)

/-- ITS FALSE NEIGHBOUR: 'it returns false'. Refute it at one input. -/
def realSortsWrong : ChangeSpec := { name := "realSorts", fn := fun _ => fun
  | [d1, d2, d3] => { results := [.lit (.bool false)], args := [d1, d2, d3] }
  | _ => none }
def RealSortsWrongFalsely : Prop := realSortsRow.holds Try.pinned (OpenSpec.ofChange realSortsWrong)

/-- 'trunklinelaw04.RealPuts': WHATEVER THE INPUT: true; the input reads as it did. -/
def realPutsSpec : ChangeSpec := { name := "realPuts", fn := fun _ => fun
  | [d1, d2] => { results := [.lit (.bool true)], args := [d1, d2] }
  | _ => none }
def realPutsRow : OpenClaim := { program := "ytljinegonoomcaa", sum := "05b708a5432f5173060bf5b7aa75b370dfd2558bbee696a48734f2178aa5085f", func := "trunkline/trunklinelaw04.RealPuts", spec := "realPuts", inPlace := ["math.Float32frombits", "math.Float64frombits", "math.Float32bits", "math.Float64bits"], apart := false }
def RealPutsSaid : Prop := realPutsRow.holds Try.pinned (OpenSpec.ofChange realPutsSpec)

/-- ITS FALSE NEIGHBOUR: 'it returns false'. Refute it at one input. -/
def realPutsWrong : ChangeSpec := { name := "realPuts", fn := fun _ => fun
  | [d1, d2] => { results := [.lit (.bool false)], args := [d1, d2] }
  | _ => none }
def RealPutsWrongFalsely : Prop := realPutsRow.holds Try.pinned (OpenSpec.ofChange realPutsWrong)

/-- 'trunklinelaw04.RealMeans': WHATEVER THE INPUT: true; the input reads as it did. -/
def realMeansSpec : ChangeSpec := { name := "realMeans", fn := fun _ => fun
  | [d1, d2] => { results := [.lit (.bool true)], args := [d1, d2] }
  | _ => none }
def realMeansRow : OpenClaim := { program := "ytljinegonoomcaa", sum := "05b708a5432f5173060bf5b7aa75b370dfd2558bbee696a48734f2178aa5085f", func := "trunkline/trunklinelaw04.RealMeans", spec := "realMeans", inPlace := ["math.Float64frombits", "math.Float64bits", "math.Float32bits"], apart := false }
def RealMeansSaid : Prop := realMeansRow.holds Try.pinned (OpenSpec.ofChange realMeansSpec)

/-- ITS FALSE NEIGHBOUR: 'it returns false'. Refute it at one input. -/
def realMeansWrong : ChangeSpec := { name := "realMeans", fn := fun _ => fun
  | [d1, d2] => { results := [.lit (.bool false)], args := [d1, d2] }
  | _ => none }
def RealMeansWrongFalsely : Prop := realMeansRow.holds Try.pinned (OpenSpec.ofChange realMeansWrong)

/-- 'trunklinelaw04.RealGets': WHATEVER THE INPUT: true; the input reads as it did. -/
def realGetsSpec : ChangeSpec := { name := "realGets", fn := fun _ => fun
  | [d] => { results := [.lit (.bool true)], args := [d] }
  | _ => none }
def realGetsRow : OpenClaim := { program := "ytljinegonoomcaa", sum := "05b708a5432f5173060bf5b7aa75b370dfd2558bbee696a48734f2178aa5085f", func := "trunkline/trunklinelaw04.RealGets", spec := "realGets", inPlace := ["math.Float32frombits", "math.Float64frombits", "math.Float32bits", "math.Float64bits"], apart := false }
def RealGetsSaid : Prop := realGetsRow.holds Try.pinned (OpenSpec.ofChange realGetsSpec)

/-- ITS FALSE NEIGHBOUR: 'it returns false'. Refute it at one input. -/
def realGetsWrong : ChangeSpec := { name := "realGets", fn := fun _ => fun
  | [d] => { results := [.lit (.bool false)], args := [d] }
  | _ => none }
def RealGetsWrongFalsely : Prop := realGetsRow.holds Try.pinned (OpenSpec.ofChange realGetsWrong)

/- THE SECOND FORM. 'bulk': how many values and letters a reading holds, each counted each time it is reached (what is shared counts as often as it is met; a slice's spare places count too). A statement '..UptoSaid' is the law's where the arguments, and the package variables that the reading takes, are together of bulk at most 1048576: NARROWER than '..Said'. Prove '..Said' where nothing that the law and all that it calls make is longer than what came in: it says more and counts as full. Else prove '..UptoSaid'. A law counts once. -/
mutual
def uptoBulk {H : Type} : DataW H → Nat
  | .lit (.string bytes) => bytes.length + 1
  | .lit _ => 1
  | .nil => 1
  | .ptr d => uptoBulk d + 1
  | .slice elems spare => uptoBulkAll elems + uptoBulkAll spare + 1
  | .agg parts => uptoBulkAll parts + 1
  | .iface _ d => uptoBulk d + 1
  | .map entries => uptoBulkEntries entries + 1
  | .held _ => 1
def uptoBulkAll {H : Type} : List (DataW H) → Nat
  | [] => 0
  | d :: r => uptoBulk d + uptoBulkAll r
def uptoBulkEntries {H : Type} : List (Lit × DataW H) → Nat
  | [] => 0
  | x :: r => uptoBulkEntry x + uptoBulkEntries r
def uptoBulkEntry {H : Type} : Lit × DataW H → Nat
  | (.string bytes, d) => bytes.length + uptoBulk d + 1
  | (_, d) => uptoBulk d + 1
 end
def uptoSmall : (H : Type) → List (DataW H) → Bool := fun _ ds => decide (uptoBulkAll ds ≤ 1048576)
def OpenSpec.upto (s : _root_.Go.ChangeSpec) : _root_.Go.OpenSpec := { _root_.Go.OpenSpec.ofChange s with cond := some uptoSmall }

/-- 'trunklinelaw04.RealOrders', WHERE WHAT IT READS IS OF BULK AT MOST 1048576: true; the input reads as it did. -/
def realOrdersUptoRow : OpenClaim := { program := "ytljinegonoomcaa", sum := "05b708a5432f5173060bf5b7aa75b370dfd2558bbee696a48734f2178aa5085f", func := "trunkline/trunklinelaw04.RealOrders", spec := "realOrders", inPlace := ["math.Float64frombits", "math.Float64bits", "math.Float32bits"], apart := false, narrowed := true }
def RealOrdersUptoSaid : Prop := realOrdersUptoRow.holds Try.pinned (OpenSpec.upto realOrdersSpec)

/-- 'trunklinelaw04.RealSorts', WHERE WHAT IT READS IS OF BULK AT MOST 1048576: true; the input reads as it did. -/
def realSortsUptoRow : OpenClaim := { program := "ytljinegonoomcaa", sum := "05b708a5432f5173060bf5b7aa75b370dfd2558bbee696a48734f2178aa5085f", func := "trunkline/trunklinelaw04.RealSorts", spec := "realSorts", inPlace := ["math.Float64frombits", "math.Float32bits", "math.Float64bits"], apart := false, narrowed := true }
def RealSortsUptoSaid : Prop := realSortsUptoRow.holds Try.pinned (OpenSpec.upto realSortsSpec)

/-- 'trunklinelaw04.RealPuts', WHERE WHAT IT READS IS OF BULK AT MOST 1048576: true; the input reads as it did. -/
def realPutsUptoRow : OpenClaim := { program := "ytljinegonoomcaa", sum := "05b708a5432f5173060bf5b7aa75b370dfd2558bbee696a48734f2178aa5085f", func := "trunkline/trunklinelaw04.RealPuts", spec := "realPuts", inPlace := ["math.Float32frombits", "math.Float64frombits", "math.Float32bits", "math.Float64bits"], apart := false, narrowed := true }
def RealPutsUptoSaid : Prop := realPutsUptoRow.holds Try.pinned (OpenSpec.upto realPutsSpec)

/-- 'trunklinelaw04.RealMeans', WHERE WHAT IT READS IS OF BULK AT MOST 1048576: true; the input reads as it did. -/
def realMeansUptoRow : OpenClaim := { program := "ytljinegonoomcaa", sum := "05b708a5432f5173060bf5b7aa75b370dfd2558bbee696a48734f2178aa5085f", func := "trunkline/trunklinelaw04.RealMeans", spec := "realMeans", inPlace := ["math.Float64frombits", "math.Float64bits", "math.Float32bits"], apart := false, narrowed := true }
def RealMeansUptoSaid : Prop := realMeansUptoRow.holds Try.pinned (OpenSpec.upto realMeansSpec)

/-- 'trunklinelaw04.RealGets', WHERE WHAT IT READS IS OF BULK AT MOST 1048576: true; the input reads as it did. -/
def realGetsUptoRow : OpenClaim := { program := "ytljinegonoomcaa", sum := "05b708a5432f5173060bf5b7aa75b370dfd2558bbee696a48734f2178aa5085f", func := "trunkline/trunklinelaw04.RealGets", spec := "realGets", inPlace := ["math.Float32frombits", "math.Float64frombits", "math.Float32bits", "math.Float64bits"], apart := false, narrowed := true }
def RealGetsUptoSaid : Prop := realGetsUptoRow.holds Try.pinned (OpenSpec.upto realGetsSpec)

end Rows
end Go.Proofs.Ytljinegonoomcaa
