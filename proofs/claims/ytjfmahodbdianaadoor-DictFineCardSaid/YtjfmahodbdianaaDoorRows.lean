/-
  NARROWER THAN 'FOR EVERY INPUT', by the rows' own cells (each row's printed sentence says how): DictJudges: laid · DictFine: laid · DictOnce: laid · DictFirst: laid · DictKeeps: laid.
  DERIVED. THE GIVEN ROWS OF THIS SEAT. 5 by the template 'for every input the law returns true; each argument reads behind the call as it read before'; 0 by the template 'total and deterministic' (their statements: YtjfmahodbdianaaDoorTotals.lean).
  GIVEN WITH THE SEED: the statements are not yours to turn. If you find one false, say at which input.
  Laid BY PROGRAM, IN A SANDBOX (cutbox-rows.mjs): the forced cells as the released guide's own fill.sh prints them over the translation eeb2be1f14c92e1d… (all of the seat's roots in one cut). By AI agents, Wed Nov 11 2026. No macro, syntax, notation, axiom, sorry.
-/
import Derived.Test.YtjfmahodbdianaaDoorChecked
import GoSem.PinnedTables
import GoSem.Claim
import GoSem.ClaimJoined
import GoSem.ClaimMapViews
import Derived.JoinedTies
import Derived.KernelRfl
namespace Go.Proofs.YtjfmahodbdianaaDoor
/- THE CELL 'sum', in the pinned program and in every row, IS THE sha256 OF THE DUMP (.gsa) THAT YtjfmahodbdianaaDoorProg.lean LOADS. Nothing in Lean hashes anything: it is a label: what it is worth is what the hold of that sum in a sandbox is worth. -/
noncomputable def Tryd.pinned : Pinned := { name := "ytjfmahodbdianaadoor", sum := "eeb2be1f14c92e1db74d363d76b086d1bb7bb04ff97516eeb8d48e450cc9b4ed", checked := Tryd.checked }
namespace Rows
def none {H : Type} : Left H := { results := [], args := [] }

/- WHAT THE LISTED PACKAGE-LEVEL VARIABLES READ AS WHEN THE CALL BEGINS. Each datum BY PROGRAM (the guide's laid-datum.mjs) off the statement by which the dump's own 'gosem.cut.vars' lays the variable. In a bare row this is a premise. The card (YtjfmahodbdianaaDoorCards.lean) ties it to the program's text. -/
def laid_unicode_utf8_acceptRanges {H : Type} : DataW H := .agg [.agg [.lit (.int .u8 128), .lit (.int .u8 191)], .agg [.lit (.int .u8 160), .lit (.int .u8 191)], .agg [.lit (.int .u8 128), .lit (.int .u8 159)], .agg [.lit (.int .u8 144), .lit (.int .u8 191)], .agg [.lit (.int .u8 128), .lit (.int .u8 143)], .agg [.lit (.int .u8 0), .lit (.int .u8 0)], .agg [.lit (.int .u8 0), .lit (.int .u8 0)], .agg [.lit (.int .u8 0), .lit (.int .u8 0)], .agg [.lit (.int .u8 0), .lit (.int .u8 0)], .agg [.lit (.int .u8 0), .lit (.int .u8 0)], .agg [.lit (.int .u8 0), .lit (.int .u8 0)], .agg [.lit (.int .u8 0), .lit (.int .u8 0)], .agg [.lit (.int .u8 0), .lit (.int .u8 0)], .agg [.lit (.int .u8 0), .lit (.int .u8 0)], .agg [.lit (.int .u8 0), .lit (.int .u8 0)], .agg [.lit (.int .u8 0), .lit (.int .u8 0)]]
/-- One of Go's own tables, pinned by name: the form's constant. -/
def laid_unicode_utf8_first : DataW Unit := Go.Pinned.utf8First

/-- 'trunklinelaw17.DictJudges': WHATEVER THE INPUT: true; the input reads as it did. -/
def dictJudgesSpec : ChangeSpec := { name := "dictJudges", fn := fun _ => fun
  | [d1, d2] => { results := [.lit (.bool true)], args := [d1, d2] }
  | _ => none }
def dictJudgesRow : OpenClaim := { program := "ytjfmahodbdianaadoor", sum := "eeb2be1f14c92e1db74d363d76b086d1bb7bb04ff97516eeb8d48e450cc9b4ed", func := "trunkline/trunklinelaw17.DictJudges", spec := "dictJudges", inPlace := ["math.Float32frombits", "math.Float64frombits"], unfollowed := true, recurses := true, named := ["unicode/utf8.first", "unicode/utf8.acceptRanges"], plainKeys := false, apart := false, laid := [("unicode/utf8.acceptRanges", laid_unicode_utf8_acceptRanges), ("unicode/utf8.first", laid_unicode_utf8_first)] }
def DictJudgesSaid : Prop := dictJudgesRow.holds Tryd.pinned (OpenSpec.ofChange dictJudgesSpec)

/-- ITS FALSE NEIGHBOUR: 'it returns false'. Refute it at one input. -/
def dictJudgesWrong : ChangeSpec := { name := "dictJudges", fn := fun _ => fun
  | [d1, d2] => { results := [.lit (.bool false)], args := [d1, d2] }
  | _ => none }
def DictJudgesWrongFalsely : Prop := dictJudgesRow.holds Tryd.pinned (OpenSpec.ofChange dictJudgesWrong)

/-- 'trunklinelaw17.DictFine': WHATEVER THE INPUT: true; the input reads as it did. -/
def dictFineSpec : ChangeSpec := { name := "dictFine", fn := fun _ => fun
  | [d1, d2, d3, d4] => { results := [.lit (.bool true)], args := [d1, d2, d3, d4] }
  | _ => none }
def dictFineRow : OpenClaim := { program := "ytjfmahodbdianaadoor", sum := "eeb2be1f14c92e1db74d363d76b086d1bb7bb04ff97516eeb8d48e450cc9b4ed", func := "trunkline/trunklinelaw17.DictFine", spec := "dictFine", inPlace := ["math.Float32frombits", "math.Float64frombits"], unfollowed := true, recurses := true, named := ["unicode/utf8.first", "unicode/utf8.acceptRanges"], plainKeys := false, apart := false, laid := [("unicode/utf8.acceptRanges", laid_unicode_utf8_acceptRanges), ("unicode/utf8.first", laid_unicode_utf8_first)] }
def DictFineSaid : Prop := dictFineRow.holds Tryd.pinned (OpenSpec.ofChange dictFineSpec)

/-- ITS FALSE NEIGHBOUR: 'it returns false'. Refute it at one input. -/
def dictFineWrong : ChangeSpec := { name := "dictFine", fn := fun _ => fun
  | [d1, d2, d3, d4] => { results := [.lit (.bool false)], args := [d1, d2, d3, d4] }
  | _ => none }
def DictFineWrongFalsely : Prop := dictFineRow.holds Tryd.pinned (OpenSpec.ofChange dictFineWrong)

/-- 'trunklinelaw17.DictOnce': WHATEVER THE INPUT: true; the input reads as it did. -/
def dictOnceSpec : ChangeSpec := { name := "dictOnce", fn := fun _ => fun
  | [d1, d2, d3, d4] => { results := [.lit (.bool true)], args := [d1, d2, d3, d4] }
  | _ => none }
def dictOnceRow : OpenClaim := { program := "ytjfmahodbdianaadoor", sum := "eeb2be1f14c92e1db74d363d76b086d1bb7bb04ff97516eeb8d48e450cc9b4ed", func := "trunkline/trunklinelaw17.DictOnce", spec := "dictOnce", inPlace := ["math.Float32frombits", "math.Float64frombits"], unfollowed := true, recurses := true, named := ["unicode/utf8.first", "unicode/utf8.acceptRanges"], plainKeys := false, apart := false, laid := [("unicode/utf8.acceptRanges", laid_unicode_utf8_acceptRanges), ("unicode/utf8.first", laid_unicode_utf8_first)] }
def DictOnceSaid : Prop := dictOnceRow.holds Tryd.pinned (OpenSpec.ofChange dictOnceSpec)

/-- ITS FALSE NEIGHBOUR: 'it returns false'. Refute it at one input. -/
def dictOnceWrong : ChangeSpec := { name := "dictOnce", fn := fun _ => fun
  | [d1, d2, d3, d4] => { results := [.lit (.bool false)], args := [d1, d2, d3, d4] }
  | _ => none }
def DictOnceWrongFalsely : Prop := dictOnceRow.holds Tryd.pinned (OpenSpec.ofChange dictOnceWrong)

/-- 'trunklinelaw17.DictFirst': WHATEVER THE INPUT: true; the input reads as it did. -/
def dictFirstSpec : ChangeSpec := { name := "dictFirst", fn := fun _ => fun
  | [d1, d2, d3] => { results := [.lit (.bool true)], args := [d1, d2, d3] }
  | _ => none }
def dictFirstRow : OpenClaim := { program := "ytjfmahodbdianaadoor", sum := "eeb2be1f14c92e1db74d363d76b086d1bb7bb04ff97516eeb8d48e450cc9b4ed", func := "trunkline/trunklinelaw17.DictFirst", spec := "dictFirst", inPlace := ["math.Float32frombits", "math.Float64frombits"], unfollowed := true, recurses := true, named := ["unicode/utf8.first", "unicode/utf8.acceptRanges"], plainKeys := false, apart := false, laid := [("unicode/utf8.acceptRanges", laid_unicode_utf8_acceptRanges), ("unicode/utf8.first", laid_unicode_utf8_first)] }
def DictFirstSaid : Prop := dictFirstRow.holds Tryd.pinned (OpenSpec.ofChange dictFirstSpec)

/-- ITS FALSE NEIGHBOUR: 'it returns false'. Refute it at one input. -/
def dictFirstWrong : ChangeSpec := { name := "dictFirst", fn := fun _ => fun
  | [d1, d2, d3] => { results := [.lit (.bool false)], args := [d1, d2, d3] }
  | _ => none }
def DictFirstWrongFalsely : Prop := dictFirstRow.holds Tryd.pinned (OpenSpec.ofChange dictFirstWrong)

/-- 'trunklinelaw17.DictKeeps': WHATEVER THE INPUT: true; the input reads as it did. -/
def dictKeepsSpec : ChangeSpec := { name := "dictKeeps", fn := fun _ => fun
  | [d] => { results := [.lit (.bool true)], args := [d] }
  | _ => none }
def dictKeepsRow : OpenClaim := { program := "ytjfmahodbdianaadoor", sum := "eeb2be1f14c92e1db74d363d76b086d1bb7bb04ff97516eeb8d48e450cc9b4ed", func := "trunkline/trunklinelaw17.DictKeeps", spec := "dictKeeps", inPlace := ["math.Float32frombits", "math.Float64frombits"], unfollowed := true, recurses := true, named := ["unicode/utf8.first", "unicode/utf8.acceptRanges"], plainKeys := false, apart := false, laid := [("unicode/utf8.acceptRanges", laid_unicode_utf8_acceptRanges), ("unicode/utf8.first", laid_unicode_utf8_first)] }
def DictKeepsSaid : Prop := dictKeepsRow.holds Tryd.pinned (OpenSpec.ofChange dictKeepsSpec)

/-- ITS FALSE NEIGHBOUR: 'it returns false'. Refute it at one input. -/
def dictKeepsWrong : ChangeSpec := { name := "dictKeeps", fn := fun _ => fun
  | [d] => { results := [.lit (.bool false)], args := [d] }
  | _ => none }
def DictKeepsWrongFalsely : Prop := dictKeepsRow.holds Tryd.pinned (OpenSpec.ofChange dictKeepsWrong)

/- THE SECOND FORM. 'bulk': how many values and letters a reading holds, each counted each time it is reached (what is shared counts as often as it is met; a slice's spare places count too). A statement '..UptoSaid' is the law's where the arguments, and the package variables that the reading takes, are together of bulk at most 1048576: NARROWER than '..Said'. Prove '..Said' where nothing that the law and all that it calls make is longer than what came in: it says more and counts as full. Else prove '..UptoSaid'. A law counts once. -/
mutual
def uptoBulk {H : Type} : DataW H → Nat
  | .lit (.string bytes) => bytes.length + 1
  | .lit _ => 1
  | .nil => 1
  | .ptr d => uptoBulk d + 1
  | .slice elems spare => uptoBulkAll elems + uptoBulkAll spare + 1
  | .agg parts => uptoBulkAll parts + 1
  | .iface _ d => uptoBulk d + 1
  | .map entries => uptoBulkEntries entries + 1
  | .held _ => 1
def uptoBulkAll {H : Type} : List (DataW H) → Nat
  | [] => 0
  | d :: r => uptoBulk d + uptoBulkAll r
def uptoBulkEntries {H : Type} : List (Lit × DataW H) → Nat
  | [] => 0
  | x :: r => uptoBulkEntry x + uptoBulkEntries r
def uptoBulkEntry {H : Type} : Lit × DataW H → Nat
  | (.string bytes, d) => bytes.length + uptoBulk d + 1
  | (_, d) => uptoBulk d + 1
 end
def uptoSmall : (H : Type) → List (DataW H) → Bool := fun _ ds => decide (uptoBulkAll ds ≤ 1048576)
def OpenSpec.upto (s : _root_.Go.ChangeSpec) : _root_.Go.OpenSpec := { _root_.Go.OpenSpec.ofChange s with cond := some uptoSmall }

/-- 'trunklinelaw17.DictJudges', WHERE WHAT IT READS IS OF BULK AT MOST 1048576: true; the input reads as it did. -/
def dictJudgesUptoRow : OpenClaim := { program := "ytjfmahodbdianaadoor", sum := "eeb2be1f14c92e1db74d363d76b086d1bb7bb04ff97516eeb8d48e450cc9b4ed", func := "trunkline/trunklinelaw17.DictJudges", spec := "dictJudges", inPlace := ["math.Float32frombits", "math.Float64frombits"], unfollowed := true, recurses := true, named := ["unicode/utf8.first", "unicode/utf8.acceptRanges"], plainKeys := false, apart := false, laid := [("unicode/utf8.acceptRanges", laid_unicode_utf8_acceptRanges), ("unicode/utf8.first", laid_unicode_utf8_first)], narrowed := true }
def DictJudgesUptoSaid : Prop := dictJudgesUptoRow.holds Tryd.pinned (OpenSpec.upto dictJudgesSpec)

/-- 'trunklinelaw17.DictFine', WHERE WHAT IT READS IS OF BULK AT MOST 1048576: true; the input reads as it did. -/
def dictFineUptoRow : OpenClaim := { program := "ytjfmahodbdianaadoor", sum := "eeb2be1f14c92e1db74d363d76b086d1bb7bb04ff97516eeb8d48e450cc9b4ed", func := "trunkline/trunklinelaw17.DictFine", spec := "dictFine", inPlace := ["math.Float32frombits", "math.Float64frombits"], unfollowed := true, recurses := true, named := ["unicode/utf8.first", "unicode/utf8.acceptRanges"], plainKeys := false, apart := false, laid := [("unicode/utf8.acceptRanges", laid_unicode_utf8_acceptRanges), ("unicode/utf8.first", laid_unicode_utf8_first)], narrowed := true }
def DictFineUptoSaid : Prop := dictFineUptoRow.holds Tryd.pinned (OpenSpec.upto dictFineSpec)

/-- 'trunklinelaw17.DictOnce', WHERE WHAT IT READS IS OF BULK AT MOST 1048576: true; the input reads as it did. -/
def dictOnceUptoRow : OpenClaim := { program := "ytjfmahodbdianaadoor", sum := "eeb2be1f14c92e1db74d363d76b086d1bb7bb04ff97516eeb8d48e450cc9b4ed", func := "trunkline/trunklinelaw17.DictOnce", spec := "dictOnce", inPlace := ["math.Float32frombits", "math.Float64frombits"], unfollowed := true, recurses := true, named := ["unicode/utf8.first", "unicode/utf8.acceptRanges"], plainKeys := false, apart := false, laid := [("unicode/utf8.acceptRanges", laid_unicode_utf8_acceptRanges), ("unicode/utf8.first", laid_unicode_utf8_first)], narrowed := true }
def DictOnceUptoSaid : Prop := dictOnceUptoRow.holds Tryd.pinned (OpenSpec.upto dictOnceSpec)

/-- 'trunklinelaw17.DictFirst', WHERE WHAT IT READS IS OF BULK AT MOST 1048576: true; the input reads as it did. -/
def dictFirstUptoRow : OpenClaim := { program := "ytjfmahodbdianaadoor", sum := "eeb2be1f14c92e1db74d363d76b086d1bb7bb04ff97516eeb8d48e450cc9b4ed", func := "trunkline/trunklinelaw17.DictFirst", spec := "dictFirst", inPlace := ["math.Float32frombits", "math.Float64frombits"], unfollowed := true, recurses := true, named := ["unicode/utf8.first", "unicode/utf8.acceptRanges"], plainKeys := false, apart := false, laid := [("unicode/utf8.acceptRanges", laid_unicode_utf8_acceptRanges), ("unicode/utf8.first", laid_unicode_utf8_first)], narrowed := true }
def DictFirstUptoSaid : Prop := dictFirstUptoRow.holds Tryd.pinned (OpenSpec.upto dictFirstSpec)

/-- 'trunklinelaw17.DictKeeps', WHERE WHAT IT READS IS OF BULK AT MOST 1048576: true; the input reads as it did. -/
def dictKeepsUptoRow : OpenClaim := { program := "ytjfmahodbdianaadoor", sum := "eeb2be1f14c92e1db74d363d76b086d1bb7bb04ff97516eeb8d48e450cc9b4ed", func := "trunkline/trunklinelaw17.DictKeeps", spec := "dictKeeps", inPlace := ["math.Float32frombits", "math.Float64frombits"], unfollowed := true, recurses := true, named := ["unicode/utf8.first", "unicode/utf8.acceptRanges"], plainKeys := false, apart := false, laid := [("unicode/utf8.acceptRanges", laid_unicode_utf8_acceptRanges), ("unicode/utf8.first", laid_unicode_utf8_first)], narrowed := true }
def DictKeepsUptoSaid : Prop := dictKeepsUptoRow.holds Tryd.pinned (OpenSpec.upto dictKeepsSpec)

end Rows
end Go.Proofs.YtjfmahodbdianaaDoor
