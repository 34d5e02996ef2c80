/-
  DERIVED. GIVEN WITH THE SEED: THE CARDS: each row of YtfialncobdinnaaDoorRows.lean that lists a variable, with what it lists TIED to the program's text (the seventh form; the later family's looks); each row that meets fmt, with fmt's text TOLD by the authors' own Lean function (tested against real Go, not proved from fmt's source: count such statements apart). THE CARD IS WHAT COUNTS. Prove the row's statement (the work); the ties are given (YtfialncobdinnaaDoorTie.lean); close each card by the builder's one call (the guide's Derived/Test/ToyasCard.lean, 'card_holds'). Laid BY PROGRAM, IN A SANDBOX (cutbox-door.mjs). By AI agents, Wed Nov 11 2026. No macro, syntax, notation, axiom, sorry.
-/
import Derived.Test.YtfialncobdinnaaDoorRows
import GoSem.ClaimSeven
namespace Go.Proofs.YtfialncobdinnaaDoor
namespace Rows

/-- THE TIED CARD OF 'trunklinelaw03.CrcZeros'. -/
def crcZerosCard : Claim7 := { stood := { row := crcZerosRow, standIns := [], harness := (true, "ef19bc35cbbc07fc662050d10c2e0e351066b8565cf76944d53ccd958107631d"), looks := false }, kinds := [], alts := [], laidByText := true, laidKinds := [.data], laidTests := true, laidLooks := .later }
def CrcZerosCardSaid : Prop := Claim7.holds Tryd.pinned (.plain (OpenSpec.ofChange crcZerosSpec)) crcZerosCard

/-- THE TIED CARD OF 'trunklinelaw03.CrcLong'. -/
def crcLongCard : Claim7 := { stood := { row := crcLongRow, standIns := [], harness := (true, "ef19bc35cbbc07fc662050d10c2e0e351066b8565cf76944d53ccd958107631d"), looks := false }, kinds := [], alts := [], laidByText := true, laidKinds := [.data], laidTests := true, laidLooks := .later }
def CrcLongCardSaid : Prop := Claim7.holds Tryd.pinned (.plain (OpenSpec.ofChange crcLongSpec)) crcLongCard

/-- THE SECOND FORM's CARD OF 'trunklinelaw03.CrcZeros'. -/
def crcZerosUptoCard : Claim7 := { stood := { row := crcZerosUptoRow, standIns := [], harness := (true, "ef19bc35cbbc07fc662050d10c2e0e351066b8565cf76944d53ccd958107631d"), looks := false }, kinds := [], alts := [], laidByText := true, laidKinds := [.data], laidTests := true, laidLooks := .later }
def CrcZerosUptoCardSaid : Prop := Claim7.holds Tryd.pinned (.plain (OpenSpec.upto crcZerosSpec)) crcZerosUptoCard

/-- THE SECOND FORM's CARD OF 'trunklinelaw03.CrcLong'. -/
def crcLongUptoCard : Claim7 := { stood := { row := crcLongUptoRow, standIns := [], harness := (true, "ef19bc35cbbc07fc662050d10c2e0e351066b8565cf76944d53ccd958107631d"), looks := false }, kinds := [], alts := [], laidByText := true, laidKinds := [.data], laidTests := true, laidLooks := .later }
def CrcLongUptoCardSaid : Prop := Claim7.holds Tryd.pinned (.plain (OpenSpec.upto crcLongSpec)) crcLongUptoCard
end Rows
end Go.Proofs.YtfialncobdinnaaDoor
