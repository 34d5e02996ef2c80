/-
  No cell of these rows narrows 'for every input' (looked for: loops, veiled, ifaces, maps, wideKeys, modest, calm, conditions, laid).
  DERIVED. THE GIVEN ROWS OF THIS SEAT. 7 by the template 'for every input the law returns true; each argument reads behind the call as it read before'; 0 by the template 'total and deterministic' (their statements: YtcekkppjalipfaaTotals.lean).
  GIVEN WITH THE SEED: the statements are not yours to turn. If you find one false, say at which input.
  Laid BY PROGRAM, IN A SANDBOX (cutbox-rows.mjs): the forced cells as the released guide's own fill.sh prints them over the translation d4ea1be84f8c07bb… (all of the seat's roots in one cut). By AI agents, Wed Nov 11 2026. No macro, syntax, notation, axiom, sorry.
-/
import Derived.Test.YtcekkppjalipfaaChecked
import GoSem.Claim
import GoSem.ClaimJoined
import GoSem.ClaimMapViews
import Derived.JoinedTies
import Derived.KernelRfl
namespace Go.Proofs.Ytcekkppjalipfaa
/- THE CELL 'sum', in the pinned program and in every row, IS THE sha256 OF THE DUMP (.gsa) THAT YtcekkppjalipfaaProg.lean LOADS. Nothing in Lean hashes anything: it is a label: what it is worth is what the hold of that sum in a sandbox is worth. -/
noncomputable def Try.pinned : Pinned := { name := "ytcekkppjalipfaa", sum := "d4ea1be84f8c07bb3d657531312ca04e28420b1f9ba75dda853dd6b16dec45ef", checked := Try.checked }
namespace Rows
def none {H : Type} : Left H := { results := [], args := [] }

/-- 'trunklinelaw18.MsgPuts': WHATEVER THE INPUT: true; the input reads as it did. -/
def msgPutsSpec : ChangeSpec := { name := "msgPuts", fn := fun _ => fun
  | [d] => { results := [.lit (.bool true)], args := [d] }
  | _ => none }
def msgPutsRow : OpenClaim := { program := "ytcekkppjalipfaa", sum := "d4ea1be84f8c07bb3d657531312ca04e28420b1f9ba75dda853dd6b16dec45ef", func := "trunkline/trunklinelaw18.MsgPuts", spec := "msgPuts", plainKeys := false, apart := false }
def MsgPutsSaid : Prop := msgPutsRow.holds Try.pinned (OpenSpec.ofChange msgPutsSpec)

/-- ITS FALSE NEIGHBOUR: 'it returns false'. Refute it at one input. -/
def msgPutsWrong : ChangeSpec := { name := "msgPuts", fn := fun _ => fun
  | [d] => { results := [.lit (.bool false)], args := [d] }
  | _ => none }
def MsgPutsWrongFalsely : Prop := msgPutsRow.holds Try.pinned (OpenSpec.ofChange msgPutsWrong)

/-- 'trunklinelaw18.MsgHop': WHATEVER THE INPUT: true; the input reads as it did. -/
def msgHopSpec : ChangeSpec := { name := "msgHop", fn := fun _ => fun
  | [d1, d2] => { results := [.lit (.bool true)], args := [d1, d2] }
  | _ => none }
def msgHopRow : OpenClaim := { program := "ytcekkppjalipfaa", sum := "d4ea1be84f8c07bb3d657531312ca04e28420b1f9ba75dda853dd6b16dec45ef", func := "trunkline/trunklinelaw18.MsgHop", spec := "msgHop", plainKeys := false, apart := false }
def MsgHopSaid : Prop := msgHopRow.holds Try.pinned (OpenSpec.ofChange msgHopSpec)

/-- ITS FALSE NEIGHBOUR: 'it returns false'. Refute it at one input. -/
def msgHopWrong : ChangeSpec := { name := "msgHop", fn := fun _ => fun
  | [d1, d2] => { results := [.lit (.bool false)], args := [d1, d2] }
  | _ => none }
def MsgHopWrongFalsely : Prop := msgHopRow.holds Try.pinned (OpenSpec.ofChange msgHopWrong)

/-- 'trunklinelaw18.MsgBases': WHATEVER THE INPUT: true; the input reads as it did. -/
def msgBasesSpec : ChangeSpec := { name := "msgBases", fn := fun _ => fun
  | [d] => { results := [.lit (.bool true)], args := [d] }
  | _ => none }
def msgBasesRow : OpenClaim := { program := "ytcekkppjalipfaa", sum := "d4ea1be84f8c07bb3d657531312ca04e28420b1f9ba75dda853dd6b16dec45ef", func := "trunkline/trunklinelaw18.MsgBases", spec := "msgBases", plainKeys := false, apart := false }
def MsgBasesSaid : Prop := msgBasesRow.holds Try.pinned (OpenSpec.ofChange msgBasesSpec)

/-- ITS FALSE NEIGHBOUR: 'it returns false'. Refute it at one input. -/
def msgBasesWrong : ChangeSpec := { name := "msgBases", fn := fun _ => fun
  | [d] => { results := [.lit (.bool false)], args := [d] }
  | _ => none }
def MsgBasesWrongFalsely : Prop := msgBasesRow.holds Try.pinned (OpenSpec.ofChange msgBasesWrong)

/-- 'trunklinelaw18.MsgFinds': WHATEVER THE INPUT: true; the input reads as it did. -/
def msgFindsSpec : ChangeSpec := { name := "msgFinds", fn := fun _ => fun
  | [d1, d2] => { results := [.lit (.bool true)], args := [d1, d2] }
  | _ => none }
def msgFindsRow : OpenClaim := { program := "ytcekkppjalipfaa", sum := "d4ea1be84f8c07bb3d657531312ca04e28420b1f9ba75dda853dd6b16dec45ef", func := "trunkline/trunklinelaw18.MsgFinds", spec := "msgFinds", unfollowed := true, recurses := true, plainKeys := false, apart := false }
def MsgFindsSaid : Prop := msgFindsRow.holds Try.pinned (OpenSpec.ofChange msgFindsSpec)

/-- ITS FALSE NEIGHBOUR: 'it returns false'. Refute it at one input. -/
def msgFindsWrong : ChangeSpec := { name := "msgFinds", fn := fun _ => fun
  | [d1, d2] => { results := [.lit (.bool false)], args := [d1, d2] }
  | _ => none }
def MsgFindsWrongFalsely : Prop := msgFindsRow.holds Try.pinned (OpenSpec.ofChange msgFindsWrong)

/-- 'trunklinelaw18.MsgAnswers': WHATEVER THE INPUT: true; the input reads as it did. -/
def msgAnswersSpec : ChangeSpec := { name := "msgAnswers", fn := fun _ => fun
  | [d1, d2, d3, d4, d5] => { results := [.lit (.bool true)], args := [d1, d2, d3, d4, d5] }
  | _ => none }
def msgAnswersRow : OpenClaim := { program := "ytcekkppjalipfaa", sum := "d4ea1be84f8c07bb3d657531312ca04e28420b1f9ba75dda853dd6b16dec45ef", func := "trunkline/trunklinelaw18.MsgAnswers", spec := "msgAnswers", unfollowed := true, recurses := true, plainKeys := false, apart := false }
def MsgAnswersSaid : Prop := msgAnswersRow.holds Try.pinned (OpenSpec.ofChange msgAnswersSpec)

/-- ITS FALSE NEIGHBOUR: 'it returns false'. Refute it at one input. -/
def msgAnswersWrong : ChangeSpec := { name := "msgAnswers", fn := fun _ => fun
  | [d1, d2, d3, d4, d5] => { results := [.lit (.bool false)], args := [d1, d2, d3, d4, d5] }
  | _ => none }
def MsgAnswersWrongFalsely : Prop := msgAnswersRow.holds Try.pinned (OpenSpec.ofChange msgAnswersWrong)

/-- 'trunklinelaw18.MsgGets': WHATEVER THE INPUT: true; the input reads as it did. -/
def msgGetsSpec : ChangeSpec := { name := "msgGets", fn := fun _ => fun
  | [d] => { results := [.lit (.bool true)], args := [d] }
  | _ => none }
def msgGetsRow : OpenClaim := { program := "ytcekkppjalipfaa", sum := "d4ea1be84f8c07bb3d657531312ca04e28420b1f9ba75dda853dd6b16dec45ef", func := "trunkline/trunklinelaw18.MsgGets", spec := "msgGets", plainKeys := false, apart := false }
def MsgGetsSaid : Prop := msgGetsRow.holds Try.pinned (OpenSpec.ofChange msgGetsSpec)

/-- ITS FALSE NEIGHBOUR: 'it returns false'. Refute it at one input. -/
def msgGetsWrong : ChangeSpec := { name := "msgGets", fn := fun _ => fun
  | [d] => { results := [.lit (.bool false)], args := [d] }
  | _ => none }
def MsgGetsWrongFalsely : Prop := msgGetsRow.holds Try.pinned (OpenSpec.ofChange msgGetsWrong)

/-- 'trunklinelaw18.MsgBack': WHATEVER THE INPUT: true; the input reads as it did. -/
def msgBackSpec : ChangeSpec := { name := "msgBack", fn := fun _ => fun
  | [d1, d2] => { results := [.lit (.bool true)], args := [d1, d2] }
  | _ => none }
def msgBackRow : OpenClaim := { program := "ytcekkppjalipfaa", sum := "d4ea1be84f8c07bb3d657531312ca04e28420b1f9ba75dda853dd6b16dec45ef", func := "trunkline/trunklinelaw18.MsgBack", spec := "msgBack", plainKeys := false, apart := false }
def MsgBackSaid : Prop := msgBackRow.holds Try.pinned (OpenSpec.ofChange msgBackSpec)

/-- ITS FALSE NEIGHBOUR: 'it returns false'. Refute it at one input. -/
def msgBackWrong : ChangeSpec := { name := "msgBack", fn := fun _ => fun
  | [d1, d2] => { results := [.lit (.bool false)], args := [d1, d2] }
  | _ => none }
def MsgBackWrongFalsely : Prop := msgBackRow.holds Try.pinned (OpenSpec.ofChange msgBackWrong)

/- THE SECOND FORM. 'bulk': how many values and letters a reading holds, each counted each time it is reached (what is shared counts as often as it is met; a slice's spare places count too). A statement '..UptoSaid' is the law's where the arguments, and the package variables that the reading takes, are together of bulk at most 1048576: NARROWER than '..Said'. Prove '..Said' where nothing that the law and all that it calls make is longer than what came in: it says more and counts as full. Else prove '..UptoSaid'. A law counts once. -/
mutual
def uptoBulk {H : Type} : DataW H → Nat
  | .lit (.string bytes) => bytes.length + 1
  | .lit _ => 1
  | .nil => 1
  | .ptr d => uptoBulk d + 1
  | .slice elems spare => uptoBulkAll elems + uptoBulkAll spare + 1
  | .agg parts => uptoBulkAll parts + 1
  | .iface _ d => uptoBulk d + 1
  | .map entries => uptoBulkEntries entries + 1
  | .held _ => 1
def uptoBulkAll {H : Type} : List (DataW H) → Nat
  | [] => 0
  | d :: r => uptoBulk d + uptoBulkAll r
def uptoBulkEntries {H : Type} : List (Lit × DataW H) → Nat
  | [] => 0
  | x :: r => uptoBulkEntry x + uptoBulkEntries r
def uptoBulkEntry {H : Type} : Lit × DataW H → Nat
  | (.string bytes, d) => bytes.length + uptoBulk d + 1
  | (_, d) => uptoBulk d + 1
 end
def uptoSmall : (H : Type) → List (DataW H) → Bool := fun _ ds => decide (uptoBulkAll ds ≤ 1048576)
def OpenSpec.upto (s : _root_.Go.ChangeSpec) : _root_.Go.OpenSpec := { _root_.Go.OpenSpec.ofChange s with cond := some uptoSmall }

/-- 'trunklinelaw18.MsgPuts', WHERE WHAT IT READS IS OF BULK AT MOST 1048576: true; the input reads as it did. -/
def msgPutsUptoRow : OpenClaim := { program := "ytcekkppjalipfaa", sum := "d4ea1be84f8c07bb3d657531312ca04e28420b1f9ba75dda853dd6b16dec45ef", func := "trunkline/trunklinelaw18.MsgPuts", spec := "msgPuts", plainKeys := false, apart := false, narrowed := true }
def MsgPutsUptoSaid : Prop := msgPutsUptoRow.holds Try.pinned (OpenSpec.upto msgPutsSpec)

/-- 'trunklinelaw18.MsgHop', WHERE WHAT IT READS IS OF BULK AT MOST 1048576: true; the input reads as it did. -/
def msgHopUptoRow : OpenClaim := { program := "ytcekkppjalipfaa", sum := "d4ea1be84f8c07bb3d657531312ca04e28420b1f9ba75dda853dd6b16dec45ef", func := "trunkline/trunklinelaw18.MsgHop", spec := "msgHop", plainKeys := false, apart := false, narrowed := true }
def MsgHopUptoSaid : Prop := msgHopUptoRow.holds Try.pinned (OpenSpec.upto msgHopSpec)

/-- 'trunklinelaw18.MsgBases', WHERE WHAT IT READS IS OF BULK AT MOST 1048576: true; the input reads as it did. -/
def msgBasesUptoRow : OpenClaim := { program := "ytcekkppjalipfaa", sum := "d4ea1be84f8c07bb3d657531312ca04e28420b1f9ba75dda853dd6b16dec45ef", func := "trunkline/trunklinelaw18.MsgBases", spec := "msgBases", plainKeys := false, apart := false, narrowed := true }
def MsgBasesUptoSaid : Prop := msgBasesUptoRow.holds Try.pinned (OpenSpec.upto msgBasesSpec)

/-- 'trunklinelaw18.MsgFinds', WHERE WHAT IT READS IS OF BULK AT MOST 1048576: true; the input reads as it did. -/
def msgFindsUptoRow : OpenClaim := { program := "ytcekkppjalipfaa", sum := "d4ea1be84f8c07bb3d657531312ca04e28420b1f9ba75dda853dd6b16dec45ef", func := "trunkline/trunklinelaw18.MsgFinds", spec := "msgFinds", unfollowed := true, recurses := true, plainKeys := false, apart := false, narrowed := true }
def MsgFindsUptoSaid : Prop := msgFindsUptoRow.holds Try.pinned (OpenSpec.upto msgFindsSpec)

/-- 'trunklinelaw18.MsgAnswers', WHERE WHAT IT READS IS OF BULK AT MOST 1048576: true; the input reads as it did. -/
def msgAnswersUptoRow : OpenClaim := { program := "ytcekkppjalipfaa", sum := "d4ea1be84f8c07bb3d657531312ca04e28420b1f9ba75dda853dd6b16dec45ef", func := "trunkline/trunklinelaw18.MsgAnswers", spec := "msgAnswers", unfollowed := true, recurses := true, plainKeys := false, apart := false, narrowed := true }
def MsgAnswersUptoSaid : Prop := msgAnswersUptoRow.holds Try.pinned (OpenSpec.upto msgAnswersSpec)

/-- 'trunklinelaw18.MsgGets', WHERE WHAT IT READS IS OF BULK AT MOST 1048576: true; the input reads as it did. -/
def msgGetsUptoRow : OpenClaim := { program := "ytcekkppjalipfaa", sum := "d4ea1be84f8c07bb3d657531312ca04e28420b1f9ba75dda853dd6b16dec45ef", func := "trunkline/trunklinelaw18.MsgGets", spec := "msgGets", plainKeys := false, apart := false, narrowed := true }
def MsgGetsUptoSaid : Prop := msgGetsUptoRow.holds Try.pinned (OpenSpec.upto msgGetsSpec)

/-- 'trunklinelaw18.MsgBack', WHERE WHAT IT READS IS OF BULK AT MOST 1048576: true; the input reads as it did. -/
def msgBackUptoRow : OpenClaim := { program := "ytcekkppjalipfaa", sum := "d4ea1be84f8c07bb3d657531312ca04e28420b1f9ba75dda853dd6b16dec45ef", func := "trunkline/trunklinelaw18.MsgBack", spec := "msgBack", plainKeys := false, apart := false, narrowed := true }
def MsgBackUptoSaid : Prop := msgBackUptoRow.holds Try.pinned (OpenSpec.upto msgBackSpec)

end Rows
end Go.Proofs.Ytcekkppjalipfaa
