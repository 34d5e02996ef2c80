/-
  No cell of these rows narrows 'for every input' (looked for: loops, veiled, ifaces, maps, wideKeys, modest, calm, conditions, laid).
  DERIVED. THE GIVEN ROWS OF THIS SEAT. 6 by the template 'for every input the law returns true; each argument reads behind the call as it read before'; 0 by the template 'total and deterministic' (their statements: YtljalbcmhcagaaaTotals.lean).
  GIVEN WITH THE SEED: the statements are not yours to turn. If you find one false, say at which input.
  Laid BY PROGRAM, IN A SANDBOX (cutbox-rows.mjs): the forced cells as the released guide's own fill.sh prints them over the translation 76f5bf0472eb072f… (all of the seat's roots in one cut). By AI agents, Wed Nov 11 2026. No macro, syntax, notation, axiom, sorry.
-/
import Derived.Test.YtljalbcmhcagaaaChecked
import GoSem.Claim
import GoSem.ClaimJoined
import GoSem.ClaimMapViews
import Derived.JoinedTies
import Derived.KernelRfl
namespace Go.Proofs.Ytljalbcmhcagaaa
/- THE CELL 'sum', in the pinned program and in every row, IS THE sha256 OF THE DUMP (.gsa) THAT YtljalbcmhcagaaaProg.lean LOADS. Nothing in Lean hashes anything: it is a label: what it is worth is what the hold of that sum in a sandbox is worth. -/
noncomputable def Try.pinned : Pinned := { name := "ytljalbcmhcagaaa", sum := "76f5bf0472eb072f637486b2311b88d885fc933c7eb0bda8c2a6f8206a0fe4d1", checked := Try.checked }
namespace Rows
def none {H : Type} : Left H := { results := [], args := [] }

/-- 'trunklinelaw12.RtoMeasures': WHATEVER THE INPUT: true; the input reads as it did. -/
def rtoMeasuresSpec : ChangeSpec := { name := "rtoMeasures", fn := fun _ => fun
  | [d1, d2] => { results := [.lit (.bool true)], args := [d1, d2] }
  | _ => none }
def rtoMeasuresRow : OpenClaim := { program := "ytljalbcmhcagaaa", sum := "76f5bf0472eb072f637486b2311b88d885fc933c7eb0bda8c2a6f8206a0fe4d1", func := "trunkline/trunklinelaw12.RtoMeasures", spec := "rtoMeasures", unfollowed := true, recurses := true, apart := false }
def RtoMeasuresSaid : Prop := rtoMeasuresRow.holds Try.pinned (OpenSpec.ofChange rtoMeasuresSpec)

/-- ITS FALSE NEIGHBOUR: 'it returns false'. Refute it at one input. -/
def rtoMeasuresWrong : ChangeSpec := { name := "rtoMeasures", fn := fun _ => fun
  | [d1, d2] => { results := [.lit (.bool false)], args := [d1, d2] }
  | _ => none }
def RtoMeasuresWrongFalsely : Prop := rtoMeasuresRow.holds Try.pinned (OpenSpec.ofChange rtoMeasuresWrong)

/-- 'trunklinelaw12.RtoSettles': WHATEVER THE INPUT: true; the input reads as it did. -/
def rtoSettlesSpec : ChangeSpec := { name := "rtoSettles", fn := fun _ => fun
  | [d1, d2] => { results := [.lit (.bool true)], args := [d1, d2] }
  | _ => none }
def rtoSettlesRow : OpenClaim := { program := "ytljalbcmhcagaaa", sum := "76f5bf0472eb072f637486b2311b88d885fc933c7eb0bda8c2a6f8206a0fe4d1", func := "trunkline/trunklinelaw12.RtoSettles", spec := "rtoSettles", unfollowed := true, recurses := true, apart := false }
def RtoSettlesSaid : Prop := rtoSettlesRow.holds Try.pinned (OpenSpec.ofChange rtoSettlesSpec)

/-- ITS FALSE NEIGHBOUR: 'it returns false'. Refute it at one input. -/
def rtoSettlesWrong : ChangeSpec := { name := "rtoSettles", fn := fun _ => fun
  | [d1, d2] => { results := [.lit (.bool false)], args := [d1, d2] }
  | _ => none }
def RtoSettlesWrongFalsely : Prop := rtoSettlesRow.holds Try.pinned (OpenSpec.ofChange rtoSettlesWrong)

/-- 'trunklinelaw12.RtoLosses': WHATEVER THE INPUT: true; the input reads as it did. -/
def rtoLossesSpec : ChangeSpec := { name := "rtoLosses", fn := fun _ => fun
  | [d] => { results := [.lit (.bool true)], args := [d] }
  | _ => none }
def rtoLossesRow : OpenClaim := { program := "ytljalbcmhcagaaa", sum := "76f5bf0472eb072f637486b2311b88d885fc933c7eb0bda8c2a6f8206a0fe4d1", func := "trunkline/trunklinelaw12.RtoLosses", spec := "rtoLosses", unfollowed := true, recurses := true, apart := false }
def RtoLossesSaid : Prop := rtoLossesRow.holds Try.pinned (OpenSpec.ofChange rtoLossesSpec)

/-- ITS FALSE NEIGHBOUR: 'it returns false'. Refute it at one input. -/
def rtoLossesWrong : ChangeSpec := { name := "rtoLosses", fn := fun _ => fun
  | [d] => { results := [.lit (.bool false)], args := [d] }
  | _ => none }
def RtoLossesWrongFalsely : Prop := rtoLossesRow.holds Try.pinned (OpenSpec.ofChange rtoLossesWrong)

/-- 'trunklinelaw12.RtoAcks': WHATEVER THE INPUT: true; the input reads as it did. -/
def rtoAcksSpec : ChangeSpec := { name := "rtoAcks", fn := fun _ => fun
  | [d1, d2, d3, d4] => { results := [.lit (.bool true)], args := [d1, d2, d3, d4] }
  | _ => none }
def rtoAcksRow : OpenClaim := { program := "ytljalbcmhcagaaa", sum := "76f5bf0472eb072f637486b2311b88d885fc933c7eb0bda8c2a6f8206a0fe4d1", func := "trunkline/trunklinelaw12.RtoAcks", spec := "rtoAcks", unfollowed := true, recurses := true, apart := false }
def RtoAcksSaid : Prop := rtoAcksRow.holds Try.pinned (OpenSpec.ofChange rtoAcksSpec)

/-- ITS FALSE NEIGHBOUR: 'it returns false'. Refute it at one input. -/
def rtoAcksWrong : ChangeSpec := { name := "rtoAcks", fn := fun _ => fun
  | [d1, d2, d3, d4] => { results := [.lit (.bool false)], args := [d1, d2, d3, d4] }
  | _ => none }
def RtoAcksWrongFalsely : Prop := rtoAcksRow.holds Try.pinned (OpenSpec.ofChange rtoAcksWrong)

/-- 'trunklinelaw12.RtoSound': WHATEVER THE INPUT: true; the input reads as it did. -/
def rtoSoundSpec : ChangeSpec := { name := "rtoSound", fn := fun _ => fun
  | [d] => { results := [.lit (.bool true)], args := [d] }
  | _ => none }
def rtoSoundRow : OpenClaim := { program := "ytljalbcmhcagaaa", sum := "76f5bf0472eb072f637486b2311b88d885fc933c7eb0bda8c2a6f8206a0fe4d1", func := "trunkline/trunklinelaw12.RtoSound", spec := "rtoSound", unfollowed := true, recurses := true, apart := false }
def RtoSoundSaid : Prop := rtoSoundRow.holds Try.pinned (OpenSpec.ofChange rtoSoundSpec)

/-- ITS FALSE NEIGHBOUR: 'it returns false'. Refute it at one input. -/
def rtoSoundWrong : ChangeSpec := { name := "rtoSound", fn := fun _ => fun
  | [d] => { results := [.lit (.bool false)], args := [d] }
  | _ => none }
def RtoSoundWrongFalsely : Prop := rtoSoundRow.holds Try.pinned (OpenSpec.ofChange rtoSoundWrong)

/-- 'trunklinelaw12.RtoShrinks': WHATEVER THE INPUT: true; the input reads as it did. -/
def rtoShrinksSpec : ChangeSpec := { name := "rtoShrinks", fn := fun _ => fun
  | [d1, d2, d3] => { results := [.lit (.bool true)], args := [d1, d2, d3] }
  | _ => none }
def rtoShrinksRow : OpenClaim := { program := "ytljalbcmhcagaaa", sum := "76f5bf0472eb072f637486b2311b88d885fc933c7eb0bda8c2a6f8206a0fe4d1", func := "trunkline/trunklinelaw12.RtoShrinks", spec := "rtoShrinks", unfollowed := true, recurses := true, apart := false }
def RtoShrinksSaid : Prop := rtoShrinksRow.holds Try.pinned (OpenSpec.ofChange rtoShrinksSpec)

/-- ITS FALSE NEIGHBOUR: 'it returns false'. Refute it at one input. -/
def rtoShrinksWrong : ChangeSpec := { name := "rtoShrinks", fn := fun _ => fun
  | [d1, d2, d3] => { results := [.lit (.bool false)], args := [d1, d2, d3] }
  | _ => none }
def RtoShrinksWrongFalsely : Prop := rtoShrinksRow.holds Try.pinned (OpenSpec.ofChange rtoShrinksWrong)

/- THE SECOND FORM. 'bulk': how many values and letters a reading holds, each counted each time it is reached (what is shared counts as often as it is met; a slice's spare places count too). A statement '..UptoSaid' is the law's where the arguments, and the package variables that the reading takes, are together of bulk at most 1048576: NARROWER than '..Said'. Prove '..Said' where nothing that the law and all that it calls make is longer than what came in: it says more and counts as full. Else prove '..UptoSaid'. A law counts once. -/
mutual
def uptoBulk {H : Type} : DataW H → Nat
  | .lit (.string bytes) => bytes.length + 1
  | .lit _ => 1
  | .nil => 1
  | .ptr d => uptoBulk d + 1
  | .slice elems spare => uptoBulkAll elems + uptoBulkAll spare + 1
  | .agg parts => uptoBulkAll parts + 1
  | .iface _ d => uptoBulk d + 1
  | .map entries => uptoBulkEntries entries + 1
  | .held _ => 1
def uptoBulkAll {H : Type} : List (DataW H) → Nat
  | [] => 0
  | d :: r => uptoBulk d + uptoBulkAll r
def uptoBulkEntries {H : Type} : List (Lit × DataW H) → Nat
  | [] => 0
  | x :: r => uptoBulkEntry x + uptoBulkEntries r
def uptoBulkEntry {H : Type} : Lit × DataW H → Nat
  | (.string bytes, d) => bytes.length + uptoBulk d + 1
  | (_, d) => uptoBulk d + 1
 end
def uptoSmall : (H : Type) → List (DataW H) → Bool := fun _ ds => decide (uptoBulkAll ds ≤ 1048576)
def OpenSpec.upto (s : _root_.Go.ChangeSpec) : _root_.Go.OpenSpec := { _root_.Go.OpenSpec.ofChange s with cond := some uptoSmall }

/-- 'trunklinelaw12.RtoMeasures', WHERE WHAT IT READS IS OF BULK AT MOST 1048576: true; the input reads as it did. -/
def rtoMeasuresUptoRow : OpenClaim := { program := "ytljalbcmhcagaaa", sum := "76f5bf0472eb072f637486b2311b88d885fc933c7eb0bda8c2a6f8206a0fe4d1", func := "trunkline/trunklinelaw12.RtoMeasures", spec := "rtoMeasures", unfollowed := true, recurses := true, apart := false, narrowed := true }
def RtoMeasuresUptoSaid : Prop := rtoMeasuresUptoRow.holds Try.pinned (OpenSpec.upto rtoMeasuresSpec)

/-- 'trunklinelaw12.RtoSettles', WHERE WHAT IT READS IS OF BULK AT MOST 1048576: true; the input reads as it did. -/
def rtoSettlesUptoRow : OpenClaim := { program := "ytljalbcmhcagaaa", sum := "76f5bf0472eb072f637486b2311b88d885fc933c7eb0bda8c2a6f8206a0fe4d1", func := "trunkline/trunklinelaw12.RtoSettles", spec := "rtoSettles", unfollowed := true, recurses := true, apart := false, narrowed := true }
def RtoSettlesUptoSaid : Prop := rtoSettlesUptoRow.holds Try.pinned (OpenSpec.upto rtoSettlesSpec)

/-- 'trunklinelaw12.RtoLosses', WHERE WHAT IT READS IS OF BULK AT MOST 1048576: true; the input reads as it did. -/
def rtoLossesUptoRow : OpenClaim := { program := "ytljalbcmhcagaaa", sum := "76f5bf0472eb072f637486b2311b88d885fc933c7eb0bda8c2a6f8206a0fe4d1", func := "trunkline/trunklinelaw12.RtoLosses", spec := "rtoLosses", unfollowed := true, recurses := true, apart := false, narrowed := true }
def RtoLossesUptoSaid : Prop := rtoLossesUptoRow.holds Try.pinned (OpenSpec.upto rtoLossesSpec)

/-- 'trunklinelaw12.RtoAcks', WHERE WHAT IT READS IS OF BULK AT MOST 1048576: true; the input reads as it did. -/
def rtoAcksUptoRow : OpenClaim := { program := "ytljalbcmhcagaaa", sum := "76f5bf0472eb072f637486b2311b88d885fc933c7eb0bda8c2a6f8206a0fe4d1", func := "trunkline/trunklinelaw12.RtoAcks", spec := "rtoAcks", unfollowed := true, recurses := true, apart := false, narrowed := true }
def RtoAcksUptoSaid : Prop := rtoAcksUptoRow.holds Try.pinned (OpenSpec.upto rtoAcksSpec)

/-- 'trunklinelaw12.RtoSound', WHERE WHAT IT READS IS OF BULK AT MOST 1048576: true; the input reads as it did. -/
def rtoSoundUptoRow : OpenClaim := { program := "ytljalbcmhcagaaa", sum := "76f5bf0472eb072f637486b2311b88d885fc933c7eb0bda8c2a6f8206a0fe4d1", func := "trunkline/trunklinelaw12.RtoSound", spec := "rtoSound", unfollowed := true, recurses := true, apart := false, narrowed := true }
def RtoSoundUptoSaid : Prop := rtoSoundUptoRow.holds Try.pinned (OpenSpec.upto rtoSoundSpec)

/-- 'trunklinelaw12.RtoShrinks', WHERE WHAT IT READS IS OF BULK AT MOST 1048576: true; the input reads as it did. -/
def rtoShrinksUptoRow : OpenClaim := { program := "ytljalbcmhcagaaa", sum := "76f5bf0472eb072f637486b2311b88d885fc933c7eb0bda8c2a6f8206a0fe4d1", func := "trunkline/trunklinelaw12.RtoShrinks", spec := "rtoShrinks", unfollowed := true, recurses := true, apart := false, narrowed := true }
def RtoShrinksUptoSaid : Prop := rtoShrinksUptoRow.holds Try.pinned (OpenSpec.upto rtoShrinksSpec)

end Rows
end Go.Proofs.Ytljalbcmhcagaaa
