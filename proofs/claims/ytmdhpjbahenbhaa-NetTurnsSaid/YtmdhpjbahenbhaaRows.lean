/-
  No cell of these rows narrows 'for every input' (looked for: loops, veiled, ifaces, maps, wideKeys, modest, calm, conditions, laid).
  DERIVED. THE GIVEN ROWS OF THIS SEAT. 5 by the template 'for every input the law returns true; each argument reads behind the call as it read before'; 0 by the template 'total and deterministic' (their statements: YtmdhpjbahenbhaaTotals.lean).
  GIVEN WITH THE SEED: the statements are not yours to turn. If you find one false, say at which input.
  Laid BY PROGRAM, IN A SANDBOX (cutbox-rows.mjs): the forced cells as the released guide's own fill.sh prints them over the translation c9d5565ba4c126eb… (all of the seat's roots in one cut). By AI agents, Wed Nov 11 2026. No macro, syntax, notation, axiom, sorry.
-/
import Derived.Test.YtmdhpjbahenbhaaChecked
import GoSem.Claim
import GoSem.ClaimJoined
import GoSem.ClaimMapViews
import Derived.JoinedTies
import Derived.KernelRfl
namespace Go.Proofs.Ytmdhpjbahenbhaa
/- THE CELL 'sum', in the pinned program and in every row, IS THE sha256 OF THE DUMP (.gsa) THAT YtmdhpjbahenbhaaProg.lean LOADS. Nothing in Lean hashes anything: it is a label: what it is worth is what the hold of that sum in a sandbox is worth. -/
noncomputable def Try.pinned : Pinned := { name := "ytmdhpjbahenbhaa", sum := "c9d5565ba4c126eb84380c80b7c5e9475e2814a7547ada3271e67068a0b0e603", checked := Try.checked }
namespace Rows
def none {H : Type} : Left H := { results := [], args := [] }

/-- 'trunklinelaw06.NetCuts': WHATEVER THE INPUT: true; the input reads as it did. -/
def netCutsSpec : ChangeSpec := { name := "netCuts", fn := fun _ => fun
  | [d1, d2, d3, d4] => { results := [.lit (.bool true)], args := [d1, d2, d3, d4] }
  | _ => none }
def netCutsRow : OpenClaim := { program := "ytmdhpjbahenbhaa", sum := "c9d5565ba4c126eb84380c80b7c5e9475e2814a7547ada3271e67068a0b0e603", func := "trunkline/trunklinelaw06.NetCuts", spec := "netCuts", unfollowed := true, recurses := true, plainKeys := false, apart := false }
def NetCutsSaid : Prop := netCutsRow.holds Try.pinned (OpenSpec.ofChange netCutsSpec)

/-- ITS FALSE NEIGHBOUR: 'it returns false'. Refute it at one input. -/
def netCutsWrong : ChangeSpec := { name := "netCuts", fn := fun _ => fun
  | [d1, d2, d3, d4] => { results := [.lit (.bool false)], args := [d1, d2, d3, d4] }
  | _ => none }
def NetCutsWrongFalsely : Prop := netCutsRow.holds Try.pinned (OpenSpec.ofChange netCutsWrong)

/-- 'trunklinelaw06.NetFull': WHATEVER THE INPUT: true; the input reads as it did. -/
def netFullSpec : ChangeSpec := { name := "netFull", fn := fun _ => fun
  | [d1, d2] => { results := [.lit (.bool true)], args := [d1, d2] }
  | _ => none }
def netFullRow : OpenClaim := { program := "ytmdhpjbahenbhaa", sum := "c9d5565ba4c126eb84380c80b7c5e9475e2814a7547ada3271e67068a0b0e603", func := "trunkline/trunklinelaw06.NetFull", spec := "netFull", unfollowed := true, recurses := true, plainKeys := false, apart := false }
def NetFullSaid : Prop := netFullRow.holds Try.pinned (OpenSpec.ofChange netFullSpec)

/-- ITS FALSE NEIGHBOUR: 'it returns false'. Refute it at one input. -/
def netFullWrong : ChangeSpec := { name := "netFull", fn := fun _ => fun
  | [d1, d2] => { results := [.lit (.bool false)], args := [d1, d2] }
  | _ => none }
def NetFullWrongFalsely : Prop := netFullRow.holds Try.pinned (OpenSpec.ofChange netFullWrong)

/-- 'trunklinelaw06.NetActs': WHATEVER THE INPUT: true; the input reads as it did. -/
def netActsSpec : ChangeSpec := { name := "netActs", fn := fun _ => fun
  | [d1, d2] => { results := [.lit (.bool true)], args := [d1, d2] }
  | _ => none }
def netActsRow : OpenClaim := { program := "ytmdhpjbahenbhaa", sum := "c9d5565ba4c126eb84380c80b7c5e9475e2814a7547ada3271e67068a0b0e603", func := "trunkline/trunklinelaw06.NetActs", spec := "netActs", unfollowed := true, recurses := true, plainKeys := false, apart := false }
def NetActsSaid : Prop := netActsRow.holds Try.pinned (OpenSpec.ofChange netActsSpec)

/-- ITS FALSE NEIGHBOUR: 'it returns false'. Refute it at one input. -/
def netActsWrong : ChangeSpec := { name := "netActs", fn := fun _ => fun
  | [d1, d2] => { results := [.lit (.bool false)], args := [d1, d2] }
  | _ => none }
def NetActsWrongFalsely : Prop := netActsRow.holds Try.pinned (OpenSpec.ofChange netActsWrong)

/-- 'trunklinelaw06.NetTurns': WHATEVER THE INPUT: true; the input reads as it did. -/
def netTurnsSpec : ChangeSpec := { name := "netTurns", fn := fun _ => fun
  | [d1, d2] => { results := [.lit (.bool true)], args := [d1, d2] }
  | _ => none }
def netTurnsRow : OpenClaim := { program := "ytmdhpjbahenbhaa", sum := "c9d5565ba4c126eb84380c80b7c5e9475e2814a7547ada3271e67068a0b0e603", func := "trunkline/trunklinelaw06.NetTurns", spec := "netTurns", unfollowed := true, recurses := true, plainKeys := false, apart := false }
def NetTurnsSaid : Prop := netTurnsRow.holds Try.pinned (OpenSpec.ofChange netTurnsSpec)

/-- ITS FALSE NEIGHBOUR: 'it returns false'. Refute it at one input. -/
def netTurnsWrong : ChangeSpec := { name := "netTurns", fn := fun _ => fun
  | [d1, d2] => { results := [.lit (.bool false)], args := [d1, d2] }
  | _ => none }
def NetTurnsWrongFalsely : Prop := netTurnsRow.holds Try.pinned (OpenSpec.ofChange netTurnsWrong)

/-- 'trunklinelaw06.NetApart': WHATEVER THE INPUT: true; the input reads as it did. -/
def netApartSpec : ChangeSpec := { name := "netApart", fn := fun _ => fun
  | [d1, d2] => { results := [.lit (.bool true)], args := [d1, d2] }
  | _ => none }
def netApartRow : OpenClaim := { program := "ytmdhpjbahenbhaa", sum := "c9d5565ba4c126eb84380c80b7c5e9475e2814a7547ada3271e67068a0b0e603", func := "trunkline/trunklinelaw06.NetApart", spec := "netApart", unfollowed := true, recurses := true, plainKeys := false, apart := false }
def NetApartSaid : Prop := netApartRow.holds Try.pinned (OpenSpec.ofChange netApartSpec)

/-- ITS FALSE NEIGHBOUR: 'it returns false'. Refute it at one input. -/
def netApartWrong : ChangeSpec := { name := "netApart", fn := fun _ => fun
  | [d1, d2] => { results := [.lit (.bool false)], args := [d1, d2] }
  | _ => none }
def NetApartWrongFalsely : Prop := netApartRow.holds Try.pinned (OpenSpec.ofChange netApartWrong)

/- THE SECOND FORM. 'bulk': how many values and letters a reading holds, each counted each time it is reached (what is shared counts as often as it is met; a slice's spare places count too). A statement '..UptoSaid' is the law's where the arguments, and the package variables that the reading takes, are together of bulk at most 1048576: NARROWER than '..Said'. Prove '..Said' where nothing that the law and all that it calls make is longer than what came in: it says more and counts as full. Else prove '..UptoSaid'. A law counts once. -/
mutual
def uptoBulk {H : Type} : DataW H → Nat
  | .lit (.string bytes) => bytes.length + 1
  | .lit _ => 1
  | .nil => 1
  | .ptr d => uptoBulk d + 1
  | .slice elems spare => uptoBulkAll elems + uptoBulkAll spare + 1
  | .agg parts => uptoBulkAll parts + 1
  | .iface _ d => uptoBulk d + 1
  | .map entries => uptoBulkEntries entries + 1
  | .held _ => 1
def uptoBulkAll {H : Type} : List (DataW H) → Nat
  | [] => 0
  | d :: r => uptoBulk d + uptoBulkAll r
def uptoBulkEntries {H : Type} : List (Lit × DataW H) → Nat
  | [] => 0
  | x :: r => uptoBulkEntry x + uptoBulkEntries r
def uptoBulkEntry {H : Type} : Lit × DataW H → Nat
  | (.string bytes, d) => bytes.length + uptoBulk d + 1
  | (_, d) => uptoBulk d + 1
 end
def uptoSmall : (H : Type) → List (DataW H) → Bool := fun _ ds => decide (uptoBulkAll ds ≤ 1048576)
def OpenSpec.upto (s : _root_.Go.ChangeSpec) : _root_.Go.OpenSpec := { _root_.Go.OpenSpec.ofChange s with cond := some uptoSmall }

/-- 'trunklinelaw06.NetCuts', WHERE WHAT IT READS IS OF BULK AT MOST 1048576: true; the input reads as it did. -/
def netCutsUptoRow : OpenClaim := { program := "ytmdhpjbahenbhaa", sum := "c9d5565ba4c126eb84380c80b7c5e9475e2814a7547ada3271e67068a0b0e603", func := "trunkline/trunklinelaw06.NetCuts", spec := "netCuts", unfollowed := true, recurses := true, plainKeys := false, apart := false, narrowed := true }
def NetCutsUptoSaid : Prop := netCutsUptoRow.holds Try.pinned (OpenSpec.upto netCutsSpec)

/-- 'trunklinelaw06.NetFull', WHERE WHAT IT READS IS OF BULK AT MOST 1048576: true; the input reads as it did. -/
def netFullUptoRow : OpenClaim := { program := "ytmdhpjbahenbhaa", sum := "c9d5565ba4c126eb84380c80b7c5e9475e2814a7547ada3271e67068a0b0e603", func := "trunkline/trunklinelaw06.NetFull", spec := "netFull", unfollowed := true, recurses := true, plainKeys := false, apart := false, narrowed := true }
def NetFullUptoSaid : Prop := netFullUptoRow.holds Try.pinned (OpenSpec.upto netFullSpec)

/-- 'trunklinelaw06.NetActs', WHERE WHAT IT READS IS OF BULK AT MOST 1048576: true; the input reads as it did. -/
def netActsUptoRow : OpenClaim := { program := "ytmdhpjbahenbhaa", sum := "c9d5565ba4c126eb84380c80b7c5e9475e2814a7547ada3271e67068a0b0e603", func := "trunkline/trunklinelaw06.NetActs", spec := "netActs", unfollowed := true, recurses := true, plainKeys := false, apart := false, narrowed := true }
def NetActsUptoSaid : Prop := netActsUptoRow.holds Try.pinned (OpenSpec.upto netActsSpec)

/-- 'trunklinelaw06.NetTurns', WHERE WHAT IT READS IS OF BULK AT MOST 1048576: true; the input reads as it did. -/
def netTurnsUptoRow : OpenClaim := { program := "ytmdhpjbahenbhaa", sum := "c9d5565ba4c126eb84380c80b7c5e9475e2814a7547ada3271e67068a0b0e603", func := "trunkline/trunklinelaw06.NetTurns", spec := "netTurns", unfollowed := true, recurses := true, plainKeys := false, apart := false, narrowed := true }
def NetTurnsUptoSaid : Prop := netTurnsUptoRow.holds Try.pinned (OpenSpec.upto netTurnsSpec)

/-- 'trunklinelaw06.NetApart', WHERE WHAT IT READS IS OF BULK AT MOST 1048576: true; the input reads as it did. -/
def netApartUptoRow : OpenClaim := { program := "ytmdhpjbahenbhaa", sum := "c9d5565ba4c126eb84380c80b7c5e9475e2814a7547ada3271e67068a0b0e603", func := "trunkline/trunklinelaw06.NetApart", spec := "netApart", unfollowed := true, recurses := true, plainKeys := false, apart := false, narrowed := true }
def NetApartUptoSaid : Prop := netApartUptoRow.holds Try.pinned (OpenSpec.upto netApartSpec)

end Rows
end Go.Proofs.Ytmdhpjbahenbhaa
