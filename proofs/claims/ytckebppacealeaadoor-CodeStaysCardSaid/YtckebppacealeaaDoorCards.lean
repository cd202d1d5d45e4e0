/-
  DERIVED. GIVEN WITH THE SEED: THE CARDS: each row of YtckebppacealeaaDoorRows.lean that lists a variable, with what it lists TIED to the program's text (the seventh form; the later family's looks); each row that meets fmt, with fmt's text TOLD by the authors' own Lean function (tested against real Go, not proved from fmt's source: count such statements apart). THE CARD IS WHAT COUNTS. Prove the row's statement (the work); the ties are given (YtckebppacealeaaDoorTie.lean); close each card by the builder's one call (the guide's Derived/Test/ToyasCard.lean, 'card_holds'). Laid BY PROGRAM, IN A SANDBOX (cutbox-door.mjs). By AI agents, Wed Nov 11 2026. No macro, syntax, notation, axiom, sorry.
-/
import Derived.Test.YtckebppacealeaaDoorRows
import GoSem.ClaimSeven
namespace Go.Proofs.YtckebppacealeaaDoor
namespace Rows

/-- THE TIED CARD OF 'fettlelaw03.CodeEncodes'. -/
def codeEncodesCard : Claim7 := { stood := { row := codeEncodesRow, standIns := [], harness := (true, "e6f8e6005ede0d5e41f2f1f9f4da012b332d3e9a248767604aafc058aec4c87c"), looks := true }, kinds := [], alts := [], laidByText := true, laidKinds := [.handle], laidTests := true, laidLooks := .later }
def CodeEncodesCardSaid : Prop := Claim7.holds Tryd.pinned (.plain (OpenSpec.ofChange codeEncodesSpec)) codeEncodesCard

/-- THE TIED CARD OF 'fettlelaw03.CodeDecodes'. -/
def codeDecodesCard : Claim7 := { stood := { row := codeDecodesRow, standIns := [], harness := (true, "e6f8e6005ede0d5e41f2f1f9f4da012b332d3e9a248767604aafc058aec4c87c"), looks := true }, kinds := [], alts := [], laidByText := true, laidKinds := [.handle], laidTests := true, laidLooks := .later }
def CodeDecodesCardSaid : Prop := Claim7.holds Tryd.pinned (.plain (OpenSpec.ofChange codeDecodesSpec)) codeDecodesCard

/-- THE TIED CARD OF 'fettlelaw03.CodeBack'. -/
def codeBackCard : Claim7 := { stood := { row := codeBackRow, standIns := [], harness := (true, "e6f8e6005ede0d5e41f2f1f9f4da012b332d3e9a248767604aafc058aec4c87c"), looks := true }, kinds := [], alts := [], laidByText := true, laidKinds := [.handle], laidTests := true, laidLooks := .later }
def CodeBackCardSaid : Prop := Claim7.holds Tryd.pinned (.plain (OpenSpec.ofChange codeBackSpec)) codeBackCard

/-- THE TIED CARD OF 'fettlelaw03.CodeWhole'. -/
def codeWholeCard : Claim7 := { stood := { row := codeWholeRow, standIns := [], harness := (true, "e6f8e6005ede0d5e41f2f1f9f4da012b332d3e9a248767604aafc058aec4c87c"), looks := true }, kinds := [], alts := [], laidByText := true, laidKinds := [.handle], laidTests := true, laidLooks := .later }
def CodeWholeCardSaid : Prop := Claim7.holds Tryd.pinned (.plain (OpenSpec.ofChange codeWholeSpec)) codeWholeCard

/-- THE TIED CARD OF 'fettlelaw03.CodeStays'. -/
def codeStaysCard : Claim7 := { stood := { row := codeStaysRow, standIns := [], harness := (true, "e6f8e6005ede0d5e41f2f1f9f4da012b332d3e9a248767604aafc058aec4c87c"), looks := true }, kinds := [], alts := [], laidByText := true, laidKinds := [.handle], laidTests := true, laidLooks := .later }
def CodeStaysCardSaid : Prop := Claim7.holds Tryd.pinned (.plain (OpenSpec.ofChange codeStaysSpec)) codeStaysCard

/-- THE TIED CARD OF 'fettlelaw03.CodeUnlike'. -/
def codeUnlikeCard : Claim7 := { stood := { row := codeUnlikeRow, standIns := [], harness := (true, "e6f8e6005ede0d5e41f2f1f9f4da012b332d3e9a248767604aafc058aec4c87c"), looks := true }, kinds := [], alts := [], laidByText := true, laidKinds := [.handle], laidTests := true, laidLooks := .later }
def CodeUnlikeCardSaid : Prop := Claim7.holds Tryd.pinned (.plain (OpenSpec.ofChange codeUnlikeSpec)) codeUnlikeCard

/-- THE SECOND FORM's CARD OF 'fettlelaw03.CodeEncodes'. -/
def codeEncodesUptoCard : Claim7 := { stood := { row := codeEncodesUptoRow, standIns := [], harness := (true, "e6f8e6005ede0d5e41f2f1f9f4da012b332d3e9a248767604aafc058aec4c87c"), looks := true }, kinds := [], alts := [], laidByText := true, laidKinds := [.handle], laidTests := true, laidLooks := .later }
def CodeEncodesUptoCardSaid : Prop := Claim7.holds Tryd.pinned (.plain (OpenSpec.upto codeEncodesSpec)) codeEncodesUptoCard

/-- THE SECOND FORM's CARD OF 'fettlelaw03.CodeDecodes'. -/
def codeDecodesUptoCard : Claim7 := { stood := { row := codeDecodesUptoRow, standIns := [], harness := (true, "e6f8e6005ede0d5e41f2f1f9f4da012b332d3e9a248767604aafc058aec4c87c"), looks := true }, kinds := [], alts := [], laidByText := true, laidKinds := [.handle], laidTests := true, laidLooks := .later }
def CodeDecodesUptoCardSaid : Prop := Claim7.holds Tryd.pinned (.plain (OpenSpec.upto codeDecodesSpec)) codeDecodesUptoCard

/-- THE SECOND FORM's CARD OF 'fettlelaw03.CodeBack'. -/
def codeBackUptoCard : Claim7 := { stood := { row := codeBackUptoRow, standIns := [], harness := (true, "e6f8e6005ede0d5e41f2f1f9f4da012b332d3e9a248767604aafc058aec4c87c"), looks := true }, kinds := [], alts := [], laidByText := true, laidKinds := [.handle], laidTests := true, laidLooks := .later }
def CodeBackUptoCardSaid : Prop := Claim7.holds Tryd.pinned (.plain (OpenSpec.upto codeBackSpec)) codeBackUptoCard

/-- THE SECOND FORM's CARD OF 'fettlelaw03.CodeWhole'. -/
def codeWholeUptoCard : Claim7 := { stood := { row := codeWholeUptoRow, standIns := [], harness := (true, "e6f8e6005ede0d5e41f2f1f9f4da012b332d3e9a248767604aafc058aec4c87c"), looks := true }, kinds := [], alts := [], laidByText := true, laidKinds := [.handle], laidTests := true, laidLooks := .later }
def CodeWholeUptoCardSaid : Prop := Claim7.holds Tryd.pinned (.plain (OpenSpec.upto codeWholeSpec)) codeWholeUptoCard

/-- THE SECOND FORM's CARD OF 'fettlelaw03.CodeStays'. -/
def codeStaysUptoCard : Claim7 := { stood := { row := codeStaysUptoRow, standIns := [], harness := (true, "e6f8e6005ede0d5e41f2f1f9f4da012b332d3e9a248767604aafc058aec4c87c"), looks := true }, kinds := [], alts := [], laidByText := true, laidKinds := [.handle], laidTests := true, laidLooks := .later }
def CodeStaysUptoCardSaid : Prop := Claim7.holds Tryd.pinned (.plain (OpenSpec.upto codeStaysSpec)) codeStaysUptoCard

/-- THE SECOND FORM's CARD OF 'fettlelaw03.CodeUnlike'. -/
def codeUnlikeUptoCard : Claim7 := { stood := { row := codeUnlikeUptoRow, standIns := [], harness := (true, "e6f8e6005ede0d5e41f2f1f9f4da012b332d3e9a248767604aafc058aec4c87c"), looks := true }, kinds := [], alts := [], laidByText := true, laidKinds := [.handle], laidTests := true, laidLooks := .later }
def CodeUnlikeUptoCardSaid : Prop := Claim7.holds Tryd.pinned (.plain (OpenSpec.upto codeUnlikeSpec)) codeUnlikeUptoCard
end Rows
end Go.Proofs.YtckebppacealeaaDoor
