/-
  No cell of these rows narrows 'for every input' (looked for: loops, veiled, ifaces, maps, wideKeys, modest, calm, conditions, laid).
  DERIVED. THE GIVEN ROWS OF THIS SEAT. 6 by the template 'for every input the law returns true; each argument reads behind the call as it read before'; 0 by the template 'total and deterministic' (their statements: YteiiifonejkjbaaTotals.lean).
  GIVEN WITH THE SEED: the statements are not yours to turn. If you find one false, say at which input.
  Laid BY PROGRAM, IN A SANDBOX (cutbox-rows.mjs): the forced cells as the released guide's own fill.sh prints them over the translation 1ed5ce7c7564d513… (all of the seat's roots in one cut). By AI agents, Wed Nov 11 2026. No macro, syntax, notation, axiom, sorry.
-/
import Derived.Test.YteiiifonejkjbaaChecked
import GoSem.Claim
import GoSem.ClaimJoined
import GoSem.ClaimMapViews
import Derived.JoinedTies
import Derived.KernelRfl
namespace Go.Proofs.Yteiiifonejkjbaa
/- THE CELL 'sum', in the pinned program and in every row, IS THE sha256 OF THE DUMP (.gsa) THAT YteiiifonejkjbaaProg.lean LOADS. Nothing in Lean hashes anything: it is a label: what it is worth is what the hold of that sum in a sandbox is worth. -/
noncomputable def Try.pinned : Pinned := { name := "yteiiifonejkjbaa", sum := "1ed5ce7c7564d513a0f246cf69db688e4c5456d81cb126546cb1fb8080a6749a", checked := Try.checked }
namespace Rows
def none {H : Type} : Left H := { results := [], args := [] }

/-- 'trunklinelaw11.FragCuts': WHATEVER THE INPUT: true; the input reads as it did. -/
def fragCutsSpec : ChangeSpec := { name := "fragCuts", fn := fun _ => fun
  | [d] => { results := [.lit (.bool true)], args := [d] }
  | _ => none }
def fragCutsRow : OpenClaim := { program := "yteiiifonejkjbaa", sum := "1ed5ce7c7564d513a0f246cf69db688e4c5456d81cb126546cb1fb8080a6749a", func := "trunkline/trunklinelaw11.FragCuts", spec := "fragCuts", unfollowed := true, recurses := true, plainKeys := false, apart := false }
def FragCutsSaid : Prop := fragCutsRow.holds Try.pinned (OpenSpec.ofChange fragCutsSpec)

/-- ITS FALSE NEIGHBOUR: 'it returns false'. Refute it at one input. -/
def fragCutsWrong : ChangeSpec := { name := "fragCuts", fn := fun _ => fun
  | [d] => { results := [.lit (.bool false)], args := [d] }
  | _ => none }
def FragCutsWrongFalsely : Prop := fragCutsRow.holds Try.pinned (OpenSpec.ofChange fragCutsWrong)

/-- 'trunklinelaw11.FragJoins': WHATEVER THE INPUT: true; the input reads as it did. -/
def fragJoinsSpec : ChangeSpec := { name := "fragJoins", fn := fun _ => fun
  | [d1, d2, d3] => { results := [.lit (.bool true)], args := [d1, d2, d3] }
  | _ => none }
def fragJoinsRow : OpenClaim := { program := "yteiiifonejkjbaa", sum := "1ed5ce7c7564d513a0f246cf69db688e4c5456d81cb126546cb1fb8080a6749a", func := "trunkline/trunklinelaw11.FragJoins", spec := "fragJoins", unfollowed := true, recurses := true, plainKeys := false, apart := false }
def FragJoinsSaid : Prop := fragJoinsRow.holds Try.pinned (OpenSpec.ofChange fragJoinsSpec)

/-- ITS FALSE NEIGHBOUR: 'it returns false'. Refute it at one input. -/
def fragJoinsWrong : ChangeSpec := { name := "fragJoins", fn := fun _ => fun
  | [d1, d2, d3] => { results := [.lit (.bool false)], args := [d1, d2, d3] }
  | _ => none }
def FragJoinsWrongFalsely : Prop := fragJoinsRow.holds Try.pinned (OpenSpec.ofChange fragJoinsWrong)

/-- 'trunklinelaw11.FragLost': WHATEVER THE INPUT: true; the input reads as it did. -/
def fragLostSpec : ChangeSpec := { name := "fragLost", fn := fun _ => fun
  | [d1, d2, d3] => { results := [.lit (.bool true)], args := [d1, d2, d3] }
  | _ => none }
def fragLostRow : OpenClaim := { program := "yteiiifonejkjbaa", sum := "1ed5ce7c7564d513a0f246cf69db688e4c5456d81cb126546cb1fb8080a6749a", func := "trunkline/trunklinelaw11.FragLost", spec := "fragLost", unfollowed := true, recurses := true, plainKeys := false, apart := false }
def FragLostSaid : Prop := fragLostRow.holds Try.pinned (OpenSpec.ofChange fragLostSpec)

/-- ITS FALSE NEIGHBOUR: 'it returns false'. Refute it at one input. -/
def fragLostWrong : ChangeSpec := { name := "fragLost", fn := fun _ => fun
  | [d1, d2, d3] => { results := [.lit (.bool false)], args := [d1, d2, d3] }
  | _ => none }
def FragLostWrongFalsely : Prop := fragLostRow.holds Try.pinned (OpenSpec.ofChange fragLostWrong)

/-- 'trunklinelaw11.FragPuts': WHATEVER THE INPUT: true; the input reads as it did. -/
def fragPutsSpec : ChangeSpec := { name := "fragPuts", fn := fun _ => fun
  | [d] => { results := [.lit (.bool true)], args := [d] }
  | _ => none }
def fragPutsRow : OpenClaim := { program := "yteiiifonejkjbaa", sum := "1ed5ce7c7564d513a0f246cf69db688e4c5456d81cb126546cb1fb8080a6749a", func := "trunkline/trunklinelaw11.FragPuts", spec := "fragPuts", unfollowed := true, recurses := true, plainKeys := false, apart := false }
def FragPutsSaid : Prop := fragPutsRow.holds Try.pinned (OpenSpec.ofChange fragPutsSpec)

/-- ITS FALSE NEIGHBOUR: 'it returns false'. Refute it at one input. -/
def fragPutsWrong : ChangeSpec := { name := "fragPuts", fn := fun _ => fun
  | [d] => { results := [.lit (.bool false)], args := [d] }
  | _ => none }
def FragPutsWrongFalsely : Prop := fragPutsRow.holds Try.pinned (OpenSpec.ofChange fragPutsWrong)

/-- 'trunklinelaw11.FragAll': WHATEVER THE INPUT: true; the input reads as it did. -/
def fragAllSpec : ChangeSpec := { name := "fragAll", fn := fun _ => fun
  | [d1, d2, d3] => { results := [.lit (.bool true)], args := [d1, d2, d3] }
  | _ => none }
def fragAllRow : OpenClaim := { program := "yteiiifonejkjbaa", sum := "1ed5ce7c7564d513a0f246cf69db688e4c5456d81cb126546cb1fb8080a6749a", func := "trunkline/trunklinelaw11.FragAll", spec := "fragAll", unfollowed := true, recurses := true, plainKeys := false, apart := false }
def FragAllSaid : Prop := fragAllRow.holds Try.pinned (OpenSpec.ofChange fragAllSpec)

/-- ITS FALSE NEIGHBOUR: 'it returns false'. Refute it at one input. -/
def fragAllWrong : ChangeSpec := { name := "fragAll", fn := fun _ => fun
  | [d1, d2, d3] => { results := [.lit (.bool false)], args := [d1, d2, d3] }
  | _ => none }
def FragAllWrongFalsely : Prop := fragAllRow.holds Try.pinned (OpenSpec.ofChange fragAllWrong)

/-- 'trunklinelaw11.FragNil': WHATEVER THE INPUT: true; the input reads as it did. -/
def fragNilSpec : ChangeSpec := { name := "fragNil", fn := fun _ => fun
  | [d1, d2] => { results := [.lit (.bool true)], args := [d1, d2] }
  | _ => none }
def fragNilRow : OpenClaim := { program := "yteiiifonejkjbaa", sum := "1ed5ce7c7564d513a0f246cf69db688e4c5456d81cb126546cb1fb8080a6749a", func := "trunkline/trunklinelaw11.FragNil", spec := "fragNil", unfollowed := true, recurses := true, plainKeys := false, apart := false }
def FragNilSaid : Prop := fragNilRow.holds Try.pinned (OpenSpec.ofChange fragNilSpec)

/-- ITS FALSE NEIGHBOUR: 'it returns false'. Refute it at one input. -/
def fragNilWrong : ChangeSpec := { name := "fragNil", fn := fun _ => fun
  | [d1, d2] => { results := [.lit (.bool false)], args := [d1, d2] }
  | _ => none }
def FragNilWrongFalsely : Prop := fragNilRow.holds Try.pinned (OpenSpec.ofChange fragNilWrong)

/- THE SECOND FORM. 'bulk': how many values and letters a reading holds, each counted each time it is reached (what is shared counts as often as it is met; a slice's spare places count too). A statement '..UptoSaid' is the law's where the arguments, and the package variables that the reading takes, are together of bulk at most 1048576: NARROWER than '..Said'. Prove '..Said' where nothing that the law and all that it calls make is longer than what came in: it says more and counts as full. Else prove '..UptoSaid'. A law counts once. -/
mutual
def uptoBulk {H : Type} : DataW H → Nat
  | .lit (.string bytes) => bytes.length + 1
  | .lit _ => 1
  | .nil => 1
  | .ptr d => uptoBulk d + 1
  | .slice elems spare => uptoBulkAll elems + uptoBulkAll spare + 1
  | .agg parts => uptoBulkAll parts + 1
  | .iface _ d => uptoBulk d + 1
  | .map entries => uptoBulkEntries entries + 1
  | .held _ => 1
def uptoBulkAll {H : Type} : List (DataW H) → Nat
  | [] => 0
  | d :: r => uptoBulk d + uptoBulkAll r
def uptoBulkEntries {H : Type} : List (Lit × DataW H) → Nat
  | [] => 0
  | x :: r => uptoBulkEntry x + uptoBulkEntries r
def uptoBulkEntry {H : Type} : Lit × DataW H → Nat
  | (.string bytes, d) => bytes.length + uptoBulk d + 1
  | (_, d) => uptoBulk d + 1
 end
def uptoSmall : (H : Type) → List (DataW H) → Bool := fun _ ds => decide (uptoBulkAll ds ≤ 1048576)
def OpenSpec.upto (s : _root_.Go.ChangeSpec) : _root_.Go.OpenSpec := { _root_.Go.OpenSpec.ofChange s with cond := some uptoSmall }

/-- 'trunklinelaw11.FragCuts', WHERE WHAT IT READS IS OF BULK AT MOST 1048576: true; the input reads as it did. -/
def fragCutsUptoRow : OpenClaim := { program := "yteiiifonejkjbaa", sum := "1ed5ce7c7564d513a0f246cf69db688e4c5456d81cb126546cb1fb8080a6749a", func := "trunkline/trunklinelaw11.FragCuts", spec := "fragCuts", unfollowed := true, recurses := true, plainKeys := false, apart := false, narrowed := true }
def FragCutsUptoSaid : Prop := fragCutsUptoRow.holds Try.pinned (OpenSpec.upto fragCutsSpec)

/-- 'trunklinelaw11.FragJoins', WHERE WHAT IT READS IS OF BULK AT MOST 1048576: true; the input reads as it did. -/
def fragJoinsUptoRow : OpenClaim := { program := "yteiiifonejkjbaa", sum := "1ed5ce7c7564d513a0f246cf69db688e4c5456d81cb126546cb1fb8080a6749a", func := "trunkline/trunklinelaw11.FragJoins", spec := "fragJoins", unfollowed := true, recurses := true, plainKeys := false, apart := false, narrowed := true }
def FragJoinsUptoSaid : Prop := fragJoinsUptoRow.holds Try.pinned (OpenSpec.upto fragJoinsSpec)

/-- 'trunklinelaw11.FragLost', WHERE WHAT IT READS IS OF BULK AT MOST 1048576: true; the input reads as it did. -/
def fragLostUptoRow : OpenClaim := { program := "yteiiifonejkjbaa", sum := "1ed5ce7c7564d513a0f246cf69db688e4c5456d81cb126546cb1fb8080a6749a", func := "trunkline/trunklinelaw11.FragLost", spec := "fragLost", unfollowed := true, recurses := true, plainKeys := false, apart := false, narrowed := true }
def FragLostUptoSaid : Prop := fragLostUptoRow.holds Try.pinned (OpenSpec.upto fragLostSpec)

/-- 'trunklinelaw11.FragPuts', WHERE WHAT IT READS IS OF BULK AT MOST 1048576: true; the input reads as it did. -/
def fragPutsUptoRow : OpenClaim := { program := "yteiiifonejkjbaa", sum := "1ed5ce7c7564d513a0f246cf69db688e4c5456d81cb126546cb1fb8080a6749a", func := "trunkline/trunklinelaw11.FragPuts", spec := "fragPuts", unfollowed := true, recurses := true, plainKeys := false, apart := false, narrowed := true }
def FragPutsUptoSaid : Prop := fragPutsUptoRow.holds Try.pinned (OpenSpec.upto fragPutsSpec)

/-- 'trunklinelaw11.FragAll', WHERE WHAT IT READS IS OF BULK AT MOST 1048576: true; the input reads as it did. -/
def fragAllUptoRow : OpenClaim := { program := "yteiiifonejkjbaa", sum := "1ed5ce7c7564d513a0f246cf69db688e4c5456d81cb126546cb1fb8080a6749a", func := "trunkline/trunklinelaw11.FragAll", spec := "fragAll", unfollowed := true, recurses := true, plainKeys := false, apart := false, narrowed := true }
def FragAllUptoSaid : Prop := fragAllUptoRow.holds Try.pinned (OpenSpec.upto fragAllSpec)

/-- 'trunklinelaw11.FragNil', WHERE WHAT IT READS IS OF BULK AT MOST 1048576: true; the input reads as it did. -/
def fragNilUptoRow : OpenClaim := { program := "yteiiifonejkjbaa", sum := "1ed5ce7c7564d513a0f246cf69db688e4c5456d81cb126546cb1fb8080a6749a", func := "trunkline/trunklinelaw11.FragNil", spec := "fragNil", unfollowed := true, recurses := true, plainKeys := false, apart := false, narrowed := true }
def FragNilUptoSaid : Prop := fragNilUptoRow.holds Try.pinned (OpenSpec.upto fragNilSpec)

end Rows
end Go.Proofs.Yteiiifonejkjbaa
