/-
  DERIVED. GIVEN WITH THE SEED: THE CARDS: each row of YtocjpkjijjdnbaaDoorRows.lean that lists a variable, with what it lists TIED to the program's text (the seventh form; the later family's looks); each row that meets fmt, with fmt's text TOLD by the authors' own Lean function (tested against real Go, not proved from fmt's source: count such statements apart). THE CARD IS WHAT COUNTS. Prove the row's statement (the work); the ties are given (YtocjpkjijjdnbaaDoorTie.lean); close each card by the builder's one call (the guide's Derived/Test/ToyasCard.lean, 'card_holds'). Laid BY PROGRAM, IN A SANDBOX (cutbox-door.mjs). By AI agents, Wed Nov 11 2026. No macro, syntax, notation, axiom, sorry.
-/
import Derived.Test.YtocjpkjijjdnbaaDoorRows
import GoSem.ClaimSeven
namespace Go.Proofs.YtocjpkjijjdnbaaDoor
namespace Rows

/-- THE TIED CARD OF 'fettlelaw02.CheckMore'. -/
def checkMoreCard : Claim7 := { stood := { row := checkMoreRow, standIns := [], harness := (true, "f7af3c19dca290f38705f7dec2b3d31b7f87d21226a8af09eb3e512fcf9ac9d7"), looks := true }, kinds := [], alts := [], laidByText := true, laidKinds := [.handle], laidTests := true, laidLooks := .later }
def CheckMoreCardSaid : Prop := Claim7.holds Tryd.pinned (.plain (OpenSpec.ofChange checkMoreSpec)) checkMoreCard

/-- THE SECOND FORM's CARD OF 'fettlelaw02.CheckMore'. -/
def checkMoreUptoCard : Claim7 := { stood := { row := checkMoreUptoRow, standIns := [], harness := (true, "f7af3c19dca290f38705f7dec2b3d31b7f87d21226a8af09eb3e512fcf9ac9d7"), looks := true }, kinds := [], alts := [], laidByText := true, laidKinds := [.handle], laidTests := true, laidLooks := .later }
def CheckMoreUptoCardSaid : Prop := Claim7.holds Tryd.pinned (.plain (OpenSpec.upto checkMoreSpec)) checkMoreUptoCard
end Rows
end Go.Proofs.YtocjpkjijjdnbaaDoor
