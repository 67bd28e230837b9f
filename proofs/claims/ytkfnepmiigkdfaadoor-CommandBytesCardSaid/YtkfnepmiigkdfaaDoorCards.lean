/-
  DERIVED. GIVEN WITH THE SEED: THE CARDS: each row of YtkfnepmiigkdfaaDoorRows.lean that lists a variable, with what it lists TIED to the program's text (the seventh form; the later family's looks); each row that meets fmt, with fmt's text TOLD by the authors' own Lean function (tested against real Go, not proved from fmt's source: count such statements apart). THE CARD IS WHAT COUNTS. Prove the row's statement (the work); the ties are given (YtkfnepmiigkdfaaDoorTie.lean); close each card by the builder's one call (the guide's Derived/Test/ToyasCard.lean, 'card_holds'). Laid BY PROGRAM, IN A SANDBOX (cutbox-door.mjs). By AI agents, Wed Nov 11 2026. No macro, syntax, notation, axiom, sorry.
-/
import Derived.Test.YtkfnepmiigkdfaaDoorRows
import GoSem.ClaimSeven
namespace Go.Proofs.YtkfnepmiigkdfaaDoor
namespace Rows

/-- THE TIED CARD OF 'parishlaw18.AcceptPicks'. -/
def acceptPicksCard : Claim7 := { stood := { row := acceptPicksRow, standIns := [], harness := (true, "e7c30a61a3aac998db77ec7feef43faf4d781950cae41fdbbd5d76349621b2cf"), looks := false }, kinds := [], alts := [], laidByText := true, laidKinds := [.data, .pinned], laidTests := true, laidLooks := .later }
def AcceptPicksCardSaid : Prop := Claim7.holds Tryd.pinned (.plain (OpenSpec.ofChange acceptPicksSpec)) acceptPicksCard

/-- THE TIED CARD OF 'parishlaw18.AcceptPlays'. -/
def acceptPlaysCard : Claim7 := { stood := { row := acceptPlaysRow, standIns := [], harness := (true, "e7c30a61a3aac998db77ec7feef43faf4d781950cae41fdbbd5d76349621b2cf"), looks := false }, kinds := [], alts := [], laidByText := true, laidKinds := [.data, .pinned], laidTests := true, laidLooks := .later }
def AcceptPlaysCardSaid : Prop := Claim7.holds Tryd.pinned (.plain (OpenSpec.ofChange acceptPlaysSpec)) acceptPlaysCard

/-- THE TIED CARD OF 'parishlaw18.AcceptKeeps'. -/
def acceptKeepsCard : Claim7 := { stood := { row := acceptKeepsRow, standIns := [], harness := (true, "e7c30a61a3aac998db77ec7feef43faf4d781950cae41fdbbd5d76349621b2cf"), looks := false }, kinds := [], alts := [], laidByText := true, laidKinds := [.data, .pinned], laidTests := true, laidLooks := .later }
def AcceptKeepsCardSaid : Prop := Claim7.holds Tryd.pinned (.plain (OpenSpec.ofChange acceptKeepsSpec)) acceptKeepsCard

/-- THE TIED CARD OF 'parishlaw18.AcceptAgain'. -/
def acceptAgainCard : Claim7 := { stood := { row := acceptAgainRow, standIns := [], harness := (true, "e7c30a61a3aac998db77ec7feef43faf4d781950cae41fdbbd5d76349621b2cf"), looks := false }, kinds := [], alts := [], laidByText := true, laidKinds := [.data, .pinned], laidTests := true, laidLooks := .later }
def AcceptAgainCardSaid : Prop := Claim7.holds Tryd.pinned (.plain (OpenSpec.ofChange acceptAgainSpec)) acceptAgainCard

/-- THE TIED CARD OF 'parishlaw09.CommandOne'. -/
def commandOneCard : Claim7 := { stood := { row := commandOneRow, standIns := [], harness := (true, "e7c30a61a3aac998db77ec7feef43faf4d781950cae41fdbbd5d76349621b2cf"), looks := false }, kinds := [], alts := [], laidByText := true, laidKinds := [.data, .pinned], laidTests := true, laidLooks := .later }
def CommandOneCardSaid : Prop := Claim7.holds Tryd.pinned (.plain (OpenSpec.ofChange commandOneSpec)) commandOneCard

/-- THE TIED CARD OF 'parishlaw09.CommandForms'. -/
def commandFormsCard : Claim7 := { stood := { row := commandFormsRow, standIns := [], harness := (true, "e7c30a61a3aac998db77ec7feef43faf4d781950cae41fdbbd5d76349621b2cf"), looks := false }, kinds := [], alts := [], laidByText := true, laidKinds := [.data, .pinned], laidTests := true, laidLooks := .later }
def CommandFormsCardSaid : Prop := Claim7.holds Tryd.pinned (.plain (OpenSpec.ofChange commandFormsSpec)) commandFormsCard

/-- THE TIED CARD OF 'parishlaw09.CommandBack'. -/
def commandBackCard : Claim7 := { stood := { row := commandBackRow, standIns := [], harness := (true, "e7c30a61a3aac998db77ec7feef43faf4d781950cae41fdbbd5d76349621b2cf"), looks := false }, kinds := [], alts := [], laidByText := true, laidKinds := [.data, .pinned], laidTests := true, laidLooks := .later }
def CommandBackCardSaid : Prop := Claim7.holds Tryd.pinned (.plain (OpenSpec.ofChange commandBackSpec)) commandBackCard

/-- THE TIED CARD OF 'parishlaw09.CommandBytes'. -/
def commandBytesCard : Claim7 := { stood := { row := commandBytesRow, standIns := [], harness := (true, "e7c30a61a3aac998db77ec7feef43faf4d781950cae41fdbbd5d76349621b2cf"), looks := false }, kinds := [], alts := [], laidByText := true, laidKinds := [.data, .pinned], laidTests := true, laidLooks := .later }
def CommandBytesCardSaid : Prop := Claim7.holds Tryd.pinned (.plain (OpenSpec.ofChange commandBytesSpec)) commandBytesCard

/-- THE SECOND FORM's CARD OF 'parishlaw18.AcceptPicks'. -/
def acceptPicksUptoCard : Claim7 := { stood := { row := acceptPicksUptoRow, standIns := [], harness := (true, "e7c30a61a3aac998db77ec7feef43faf4d781950cae41fdbbd5d76349621b2cf"), looks := false }, kinds := [], alts := [], laidByText := true, laidKinds := [.data, .pinned], laidTests := true, laidLooks := .later }
def AcceptPicksUptoCardSaid : Prop := Claim7.holds Tryd.pinned (.plain (OpenSpec.upto acceptPicksSpec)) acceptPicksUptoCard

/-- THE SECOND FORM's CARD OF 'parishlaw18.AcceptPlays'. -/
def acceptPlaysUptoCard : Claim7 := { stood := { row := acceptPlaysUptoRow, standIns := [], harness := (true, "e7c30a61a3aac998db77ec7feef43faf4d781950cae41fdbbd5d76349621b2cf"), looks := false }, kinds := [], alts := [], laidByText := true, laidKinds := [.data, .pinned], laidTests := true, laidLooks := .later }
def AcceptPlaysUptoCardSaid : Prop := Claim7.holds Tryd.pinned (.plain (OpenSpec.upto acceptPlaysSpec)) acceptPlaysUptoCard

/-- THE SECOND FORM's CARD OF 'parishlaw18.AcceptKeeps'. -/
def acceptKeepsUptoCard : Claim7 := { stood := { row := acceptKeepsUptoRow, standIns := [], harness := (true, "e7c30a61a3aac998db77ec7feef43faf4d781950cae41fdbbd5d76349621b2cf"), looks := false }, kinds := [], alts := [], laidByText := true, laidKinds := [.data, .pinned], laidTests := true, laidLooks := .later }
def AcceptKeepsUptoCardSaid : Prop := Claim7.holds Tryd.pinned (.plain (OpenSpec.upto acceptKeepsSpec)) acceptKeepsUptoCard

/-- THE SECOND FORM's CARD OF 'parishlaw18.AcceptAgain'. -/
def acceptAgainUptoCard : Claim7 := { stood := { row := acceptAgainUptoRow, standIns := [], harness := (true, "e7c30a61a3aac998db77ec7feef43faf4d781950cae41fdbbd5d76349621b2cf"), looks := false }, kinds := [], alts := [], laidByText := true, laidKinds := [.data, .pinned], laidTests := true, laidLooks := .later }
def AcceptAgainUptoCardSaid : Prop := Claim7.holds Tryd.pinned (.plain (OpenSpec.upto acceptAgainSpec)) acceptAgainUptoCard

/-- THE SECOND FORM's CARD OF 'parishlaw09.CommandOne'. -/
def commandOneUptoCard : Claim7 := { stood := { row := commandOneUptoRow, standIns := [], harness := (true, "e7c30a61a3aac998db77ec7feef43faf4d781950cae41fdbbd5d76349621b2cf"), looks := false }, kinds := [], alts := [], laidByText := true, laidKinds := [.data, .pinned], laidTests := true, laidLooks := .later }
def CommandOneUptoCardSaid : Prop := Claim7.holds Tryd.pinned (.plain (OpenSpec.upto commandOneSpec)) commandOneUptoCard

/-- THE SECOND FORM's CARD OF 'parishlaw09.CommandForms'. -/
def commandFormsUptoCard : Claim7 := { stood := { row := commandFormsUptoRow, standIns := [], harness := (true, "e7c30a61a3aac998db77ec7feef43faf4d781950cae41fdbbd5d76349621b2cf"), looks := false }, kinds := [], alts := [], laidByText := true, laidKinds := [.data, .pinned], laidTests := true, laidLooks := .later }
def CommandFormsUptoCardSaid : Prop := Claim7.holds Tryd.pinned (.plain (OpenSpec.upto commandFormsSpec)) commandFormsUptoCard

/-- THE SECOND FORM's CARD OF 'parishlaw09.CommandBack'. -/
def commandBackUptoCard : Claim7 := { stood := { row := commandBackUptoRow, standIns := [], harness := (true, "e7c30a61a3aac998db77ec7feef43faf4d781950cae41fdbbd5d76349621b2cf"), looks := false }, kinds := [], alts := [], laidByText := true, laidKinds := [.data, .pinned], laidTests := true, laidLooks := .later }
def CommandBackUptoCardSaid : Prop := Claim7.holds Tryd.pinned (.plain (OpenSpec.upto commandBackSpec)) commandBackUptoCard

/-- THE SECOND FORM's CARD OF 'parishlaw09.CommandBytes'. -/
def commandBytesUptoCard : Claim7 := { stood := { row := commandBytesUptoRow, standIns := [], harness := (true, "e7c30a61a3aac998db77ec7feef43faf4d781950cae41fdbbd5d76349621b2cf"), looks := false }, kinds := [], alts := [], laidByText := true, laidKinds := [.data, .pinned], laidTests := true, laidLooks := .later }
def CommandBytesUptoCardSaid : Prop := Claim7.holds Tryd.pinned (.plain (OpenSpec.upto commandBytesSpec)) commandBytesUptoCard
end Rows
end Go.Proofs.YtkfnepmiigkdfaaDoor
