/-
  DERIVED. GIVEN WITH THE SEED: THE CARDS: each row of YtjfmahodbdianaaDoorRows.lean that lists a variable, with what it lists TIED to the program's text (the seventh form; the later family's looks); each row that meets fmt, with fmt's text TOLD by the authors' own Lean function (tested against real Go, not proved from fmt's source: count such statements apart). THE CARD IS WHAT COUNTS. Prove the row's statement (the work); the ties are given (YtjfmahodbdianaaDoorTie.lean); close each card by the builder's one call (the guide's Derived/Test/ToyasCard.lean, 'card_holds'). Laid BY PROGRAM, IN A SANDBOX (cutbox-door.mjs). By AI agents, Wed Nov 11 2026. No macro, syntax, notation, axiom, sorry.
-/
import Derived.Test.YtjfmahodbdianaaDoorRows
import GoSem.ClaimSeven
namespace Go.Proofs.YtjfmahodbdianaaDoor
namespace Rows

/-- THE TIED CARD OF 'trunklinelaw17.DictJudges'. -/
def dictJudgesCard : Claim7 := { stood := { row := dictJudgesRow, standIns := [], harness := (true, "a122b00d1982a1e517c015c15b87869f2b79e8d71d02114ab4275fa2672dc578"), looks := false }, kinds := [], alts := [], laidByText := true, laidKinds := [.data, .pinned], laidTests := true, laidLooks := .later }
def DictJudgesCardSaid : Prop := Claim7.holds Tryd.pinned (.plain (OpenSpec.ofChange dictJudgesSpec)) dictJudgesCard

/-- THE TIED CARD OF 'trunklinelaw17.DictFine'. -/
def dictFineCard : Claim7 := { stood := { row := dictFineRow, standIns := [], harness := (true, "a122b00d1982a1e517c015c15b87869f2b79e8d71d02114ab4275fa2672dc578"), looks := false }, kinds := [], alts := [], laidByText := true, laidKinds := [.data, .pinned], laidTests := true, laidLooks := .later }
def DictFineCardSaid : Prop := Claim7.holds Tryd.pinned (.plain (OpenSpec.ofChange dictFineSpec)) dictFineCard

/-- THE TIED CARD OF 'trunklinelaw17.DictOnce'. -/
def dictOnceCard : Claim7 := { stood := { row := dictOnceRow, standIns := [], harness := (true, "a122b00d1982a1e517c015c15b87869f2b79e8d71d02114ab4275fa2672dc578"), looks := false }, kinds := [], alts := [], laidByText := true, laidKinds := [.data, .pinned], laidTests := true, laidLooks := .later }
def DictOnceCardSaid : Prop := Claim7.holds Tryd.pinned (.plain (OpenSpec.ofChange dictOnceSpec)) dictOnceCard

/-- THE TIED CARD OF 'trunklinelaw17.DictFirst'. -/
def dictFirstCard : Claim7 := { stood := { row := dictFirstRow, standIns := [], harness := (true, "a122b00d1982a1e517c015c15b87869f2b79e8d71d02114ab4275fa2672dc578"), looks := false }, kinds := [], alts := [], laidByText := true, laidKinds := [.data, .pinned], laidTests := true, laidLooks := .later }
def DictFirstCardSaid : Prop := Claim7.holds Tryd.pinned (.plain (OpenSpec.ofChange dictFirstSpec)) dictFirstCard

/-- THE TIED CARD OF 'trunklinelaw17.DictKeeps'. -/
def dictKeepsCard : Claim7 := { stood := { row := dictKeepsRow, standIns := [], harness := (true, "a122b00d1982a1e517c015c15b87869f2b79e8d71d02114ab4275fa2672dc578"), looks := false }, kinds := [], alts := [], laidByText := true, laidKinds := [.data, .pinned], laidTests := true, laidLooks := .later }
def DictKeepsCardSaid : Prop := Claim7.holds Tryd.pinned (.plain (OpenSpec.ofChange dictKeepsSpec)) dictKeepsCard

/-- THE SECOND FORM's CARD OF 'trunklinelaw17.DictJudges'. -/
def dictJudgesUptoCard : Claim7 := { stood := { row := dictJudgesUptoRow, standIns := [], harness := (true, "a122b00d1982a1e517c015c15b87869f2b79e8d71d02114ab4275fa2672dc578"), looks := false }, kinds := [], alts := [], laidByText := true, laidKinds := [.data, .pinned], laidTests := true, laidLooks := .later }
def DictJudgesUptoCardSaid : Prop := Claim7.holds Tryd.pinned (.plain (OpenSpec.upto dictJudgesSpec)) dictJudgesUptoCard

/-- THE SECOND FORM's CARD OF 'trunklinelaw17.DictFine'. -/
def dictFineUptoCard : Claim7 := { stood := { row := dictFineUptoRow, standIns := [], harness := (true, "a122b00d1982a1e517c015c15b87869f2b79e8d71d02114ab4275fa2672dc578"), looks := false }, kinds := [], alts := [], laidByText := true, laidKinds := [.data, .pinned], laidTests := true, laidLooks := .later }
def DictFineUptoCardSaid : Prop := Claim7.holds Tryd.pinned (.plain (OpenSpec.upto dictFineSpec)) dictFineUptoCard

/-- THE SECOND FORM's CARD OF 'trunklinelaw17.DictOnce'. -/
def dictOnceUptoCard : Claim7 := { stood := { row := dictOnceUptoRow, standIns := [], harness := (true, "a122b00d1982a1e517c015c15b87869f2b79e8d71d02114ab4275fa2672dc578"), looks := false }, kinds := [], alts := [], laidByText := true, laidKinds := [.data, .pinned], laidTests := true, laidLooks := .later }
def DictOnceUptoCardSaid : Prop := Claim7.holds Tryd.pinned (.plain (OpenSpec.upto dictOnceSpec)) dictOnceUptoCard

/-- THE SECOND FORM's CARD OF 'trunklinelaw17.DictFirst'. -/
def dictFirstUptoCard : Claim7 := { stood := { row := dictFirstUptoRow, standIns := [], harness := (true, "a122b00d1982a1e517c015c15b87869f2b79e8d71d02114ab4275fa2672dc578"), looks := false }, kinds := [], alts := [], laidByText := true, laidKinds := [.data, .pinned], laidTests := true, laidLooks := .later }
def DictFirstUptoCardSaid : Prop := Claim7.holds Tryd.pinned (.plain (OpenSpec.upto dictFirstSpec)) dictFirstUptoCard

/-- THE SECOND FORM's CARD OF 'trunklinelaw17.DictKeeps'. -/
def dictKeepsUptoCard : Claim7 := { stood := { row := dictKeepsUptoRow, standIns := [], harness := (true, "a122b00d1982a1e517c015c15b87869f2b79e8d71d02114ab4275fa2672dc578"), looks := false }, kinds := [], alts := [], laidByText := true, laidKinds := [.data, .pinned], laidTests := true, laidLooks := .later }
def DictKeepsUptoCardSaid : Prop := Claim7.holds Tryd.pinned (.plain (OpenSpec.upto dictKeepsSpec)) dictKeepsUptoCard
end Rows
end Go.Proofs.YtjfmahodbdianaaDoor
