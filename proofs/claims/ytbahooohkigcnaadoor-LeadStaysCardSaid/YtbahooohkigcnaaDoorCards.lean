/-
  DERIVED. GIVEN WITH THE SEED: THE CARDS: each row of YtbahooohkigcnaaDoorRows.lean that lists a variable, with what it lists TIED to the program's text (the seventh form; the later family's looks); each row that meets fmt, with fmt's text TOLD by the authors' own Lean function (tested against real Go, not proved from fmt's source: count such statements apart). THE CARD IS WHAT COUNTS. Prove the row's statement (the work); the ties are given (YtbahooohkigcnaaDoorTie.lean); close each card by the builder's one call (the guide's Derived/Test/ToyasCard.lean, 'card_holds'). Laid BY PROGRAM, IN A SANDBOX (cutbox-door.mjs). By AI agents, Wed Nov 11 2026. No macro, syntax, notation, axiom, sorry.
-/
import Derived.Test.YtbahooohkigcnaaDoorRows
import GoSem.ClaimSeven
namespace Go.Proofs.YtbahooohkigcnaaDoor
namespace Rows

/-- THE TIED CARD OF 'parishlaw18.AcceptPicks'. -/
def acceptPicksCard : Claim7 := { stood := { row := acceptPicksRow, standIns := [], harness := (true, "56df868ac24bc1837057177071221f1052e31a9e86529d1562df3b1e9ee74c38"), looks := false }, kinds := [], alts := [], laidByText := true, laidKinds := [.data, .pinned], laidTests := true, laidLooks := .later }
def AcceptPicksCardSaid : Prop := Claim7.holds Tryd.pinned (.plain (OpenSpec.ofChange acceptPicksSpec)) acceptPicksCard

/-- THE TIED CARD OF 'parishlaw18.AcceptPlays'. -/
def acceptPlaysCard : Claim7 := { stood := { row := acceptPlaysRow, standIns := [], harness := (true, "56df868ac24bc1837057177071221f1052e31a9e86529d1562df3b1e9ee74c38"), looks := false }, kinds := [], alts := [], laidByText := true, laidKinds := [.data, .pinned], laidTests := true, laidLooks := .later }
def AcceptPlaysCardSaid : Prop := Claim7.holds Tryd.pinned (.plain (OpenSpec.ofChange acceptPlaysSpec)) acceptPlaysCard

/-- THE TIED CARD OF 'parishlaw18.AcceptOne'. -/
def acceptOneCard : Claim7 := { stood := { row := acceptOneRow, standIns := [], harness := (true, "56df868ac24bc1837057177071221f1052e31a9e86529d1562df3b1e9ee74c38"), looks := false }, kinds := [], alts := [], laidByText := true, laidKinds := [.data, .pinned], laidTests := true, laidLooks := .later }
def AcceptOneCardSaid : Prop := Claim7.holds Tryd.pinned (.plain (OpenSpec.ofChange acceptOneSpec)) acceptOneCard

/-- THE TIED CARD OF 'parishlaw09.CommandForms'. -/
def commandFormsCard : Claim7 := { stood := { row := commandFormsRow, standIns := [], harness := (true, "56df868ac24bc1837057177071221f1052e31a9e86529d1562df3b1e9ee74c38"), looks := false }, kinds := [], alts := [], laidByText := true, laidKinds := [.data, .pinned], laidTests := true, laidLooks := .later }
def CommandFormsCardSaid : Prop := Claim7.holds Tryd.pinned (.plain (OpenSpec.ofChange commandFormsSpec)) commandFormsCard

/-- THE TIED CARD OF 'parishlaw19.LeadOnce'. -/
def leadOnceCard : Claim7 := { stood := { row := leadOnceRow, standIns := [], harness := (true, "56df868ac24bc1837057177071221f1052e31a9e86529d1562df3b1e9ee74c38"), looks := false }, kinds := [], alts := [], laidByText := true, laidKinds := [.data, .pinned], laidTests := true, laidLooks := .later }
def LeadOnceCardSaid : Prop := Claim7.holds Tryd.pinned (.plain (OpenSpec.ofChange leadOnceSpec)) leadOnceCard

/-- THE TIED CARD OF 'parishlaw19.LeadStays'. -/
def leadStaysCard : Claim7 := { stood := { row := leadStaysRow, standIns := [], harness := (true, "56df868ac24bc1837057177071221f1052e31a9e86529d1562df3b1e9ee74c38"), looks := false }, kinds := [], alts := [], laidByText := true, laidKinds := [.data, .pinned], laidTests := true, laidLooks := .later }
def LeadStaysCardSaid : Prop := Claim7.holds Tryd.pinned (.plain (OpenSpec.ofChange leadStaysSpec)) leadStaysCard

/-- THE TIED CARD OF 'parishlaw19.LeadNil'. -/
def leadNilCard : Claim7 := { stood := { row := leadNilRow, standIns := [], harness := (true, "56df868ac24bc1837057177071221f1052e31a9e86529d1562df3b1e9ee74c38"), looks := false }, kinds := [], alts := [], laidByText := true, laidKinds := [.data, .pinned], laidTests := true, laidLooks := .later }
def LeadNilCardSaid : Prop := Claim7.holds Tryd.pinned (.plain (OpenSpec.ofChange leadNilSpec)) leadNilCard

/-- THE TIED CARD OF 'parishlaw09.CommandBytes'. -/
def commandBytesCard : Claim7 := { stood := { row := commandBytesRow, standIns := [], harness := (true, "56df868ac24bc1837057177071221f1052e31a9e86529d1562df3b1e9ee74c38"), looks := false }, kinds := [], alts := [], laidByText := true, laidKinds := [.data, .pinned], laidTests := true, laidLooks := .later }
def CommandBytesCardSaid : Prop := Claim7.holds Tryd.pinned (.plain (OpenSpec.ofChange commandBytesSpec)) commandBytesCard

/-- THE TIED CARD OF 'parishlaw19.LeadAgree'. -/
def leadAgreeCard : Claim7 := { stood := { row := leadAgreeRow, standIns := [], harness := (true, "56df868ac24bc1837057177071221f1052e31a9e86529d1562df3b1e9ee74c38"), looks := false }, kinds := [], alts := [], laidByText := true, laidKinds := [.data, .pinned], laidTests := true, laidLooks := .later }
def LeadAgreeCardSaid : Prop := Claim7.holds Tryd.pinned (.plain (OpenSpec.ofChange leadAgreeSpec)) leadAgreeCard

/-- THE SECOND FORM's CARD OF 'parishlaw18.AcceptPicks'. -/
def acceptPicksUptoCard : Claim7 := { stood := { row := acceptPicksUptoRow, standIns := [], harness := (true, "56df868ac24bc1837057177071221f1052e31a9e86529d1562df3b1e9ee74c38"), looks := false }, kinds := [], alts := [], laidByText := true, laidKinds := [.data, .pinned], laidTests := true, laidLooks := .later }
def AcceptPicksUptoCardSaid : Prop := Claim7.holds Tryd.pinned (.plain (OpenSpec.upto acceptPicksSpec)) acceptPicksUptoCard

/-- THE SECOND FORM's CARD OF 'parishlaw18.AcceptPlays'. -/
def acceptPlaysUptoCard : Claim7 := { stood := { row := acceptPlaysUptoRow, standIns := [], harness := (true, "56df868ac24bc1837057177071221f1052e31a9e86529d1562df3b1e9ee74c38"), looks := false }, kinds := [], alts := [], laidByText := true, laidKinds := [.data, .pinned], laidTests := true, laidLooks := .later }
def AcceptPlaysUptoCardSaid : Prop := Claim7.holds Tryd.pinned (.plain (OpenSpec.upto acceptPlaysSpec)) acceptPlaysUptoCard

/-- THE SECOND FORM's CARD OF 'parishlaw18.AcceptOne'. -/
def acceptOneUptoCard : Claim7 := { stood := { row := acceptOneUptoRow, standIns := [], harness := (true, "56df868ac24bc1837057177071221f1052e31a9e86529d1562df3b1e9ee74c38"), looks := false }, kinds := [], alts := [], laidByText := true, laidKinds := [.data, .pinned], laidTests := true, laidLooks := .later }
def AcceptOneUptoCardSaid : Prop := Claim7.holds Tryd.pinned (.plain (OpenSpec.upto acceptOneSpec)) acceptOneUptoCard

/-- THE SECOND FORM's CARD OF 'parishlaw09.CommandForms'. -/
def commandFormsUptoCard : Claim7 := { stood := { row := commandFormsUptoRow, standIns := [], harness := (true, "56df868ac24bc1837057177071221f1052e31a9e86529d1562df3b1e9ee74c38"), looks := false }, kinds := [], alts := [], laidByText := true, laidKinds := [.data, .pinned], laidTests := true, laidLooks := .later }
def CommandFormsUptoCardSaid : Prop := Claim7.holds Tryd.pinned (.plain (OpenSpec.upto commandFormsSpec)) commandFormsUptoCard

/-- THE SECOND FORM's CARD OF 'parishlaw19.LeadOnce'. -/
def leadOnceUptoCard : Claim7 := { stood := { row := leadOnceUptoRow, standIns := [], harness := (true, "56df868ac24bc1837057177071221f1052e31a9e86529d1562df3b1e9ee74c38"), looks := false }, kinds := [], alts := [], laidByText := true, laidKinds := [.data, .pinned], laidTests := true, laidLooks := .later }
def LeadOnceUptoCardSaid : Prop := Claim7.holds Tryd.pinned (.plain (OpenSpec.upto leadOnceSpec)) leadOnceUptoCard

/-- THE SECOND FORM's CARD OF 'parishlaw19.LeadStays'. -/
def leadStaysUptoCard : Claim7 := { stood := { row := leadStaysUptoRow, standIns := [], harness := (true, "56df868ac24bc1837057177071221f1052e31a9e86529d1562df3b1e9ee74c38"), looks := false }, kinds := [], alts := [], laidByText := true, laidKinds := [.data, .pinned], laidTests := true, laidLooks := .later }
def LeadStaysUptoCardSaid : Prop := Claim7.holds Tryd.pinned (.plain (OpenSpec.upto leadStaysSpec)) leadStaysUptoCard

/-- THE SECOND FORM's CARD OF 'parishlaw19.LeadNil'. -/
def leadNilUptoCard : Claim7 := { stood := { row := leadNilUptoRow, standIns := [], harness := (true, "56df868ac24bc1837057177071221f1052e31a9e86529d1562df3b1e9ee74c38"), looks := false }, kinds := [], alts := [], laidByText := true, laidKinds := [.data, .pinned], laidTests := true, laidLooks := .later }
def LeadNilUptoCardSaid : Prop := Claim7.holds Tryd.pinned (.plain (OpenSpec.upto leadNilSpec)) leadNilUptoCard

/-- THE SECOND FORM's CARD OF 'parishlaw09.CommandBytes'. -/
def commandBytesUptoCard : Claim7 := { stood := { row := commandBytesUptoRow, standIns := [], harness := (true, "56df868ac24bc1837057177071221f1052e31a9e86529d1562df3b1e9ee74c38"), looks := false }, kinds := [], alts := [], laidByText := true, laidKinds := [.data, .pinned], laidTests := true, laidLooks := .later }
def CommandBytesUptoCardSaid : Prop := Claim7.holds Tryd.pinned (.plain (OpenSpec.upto commandBytesSpec)) commandBytesUptoCard

/-- THE SECOND FORM's CARD OF 'parishlaw19.LeadAgree'. -/
def leadAgreeUptoCard : Claim7 := { stood := { row := leadAgreeUptoRow, standIns := [], harness := (true, "56df868ac24bc1837057177071221f1052e31a9e86529d1562df3b1e9ee74c38"), looks := false }, kinds := [], alts := [], laidByText := true, laidKinds := [.data, .pinned], laidTests := true, laidLooks := .later }
def LeadAgreeUptoCardSaid : Prop := Claim7.holds Tryd.pinned (.plain (OpenSpec.upto leadAgreeSpec)) leadAgreeUptoCard
end Rows
end Go.Proofs.YtbahooohkigcnaaDoor
