/-
  DERIVED. GIVEN WITH THE SEED: THE CARDS: each row of YtjfponhdlfhmbaaDoorRows.lean that lists a variable, with what it lists TIED to the program's text (the seventh form; the later family's looks); each row that meets fmt, with fmt's text TOLD by the authors' own Lean function (tested against real Go, not proved from fmt's source: count such statements apart). THE CARD IS WHAT COUNTS. Prove the row's statement (the work); the ties are given (YtjfponhdlfhmbaaDoorTie.lean); close each card by the builder's one call (the guide's Derived/Test/ToyasCard.lean, 'card_holds'). Laid BY PROGRAM, IN A SANDBOX (cutbox-door.mjs). By AI agents, Wed Nov 11 2026. No macro, syntax, notation, axiom, sorry.
-/
import Derived.Test.YtjfponhdlfhmbaaDoorRows
import GoSem.ClaimSeven
namespace Go.Proofs.YtjfponhdlfhmbaaDoor
namespace Rows

/-- THE TIED CARD OF 'trunklinelaw16.AvpFits'. -/
def avpFitsCard : Claim7 := { stood := { row := avpFitsRow, standIns := [], harness := (true, "33485386a916b8b7386d53f3b7a3aae842ee2c257238cdef57afb36fc79b76d5"), looks := false }, kinds := [], alts := [], laidByText := true, laidKinds := [.data, .pinned], laidTests := true, laidLooks := .later }
def AvpFitsCardSaid : Prop := Claim7.holds Tryd.pinned (.plain (OpenSpec.ofChange avpFitsSpec)) avpFitsCard

/-- THE SECOND FORM's CARD OF 'trunklinelaw16.AvpFits'. -/
def avpFitsUptoCard : Claim7 := { stood := { row := avpFitsUptoRow, standIns := [], harness := (true, "33485386a916b8b7386d53f3b7a3aae842ee2c257238cdef57afb36fc79b76d5"), looks := false }, kinds := [], alts := [], laidByText := true, laidKinds := [.data, .pinned], laidTests := true, laidLooks := .later }
def AvpFitsUptoCardSaid : Prop := Claim7.holds Tryd.pinned (.plain (OpenSpec.upto avpFitsSpec)) avpFitsUptoCard
end Rows
end Go.Proofs.YtjfponhdlfhmbaaDoor
