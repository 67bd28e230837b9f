/-
  DERIVED. GIVEN WITH THE SEED: THE CARDS: each row of YthclniimhpmeoaaGreatDoorRows.lean that lists a variable, with what it lists TIED to the program's text (the seventh form; the later family's looks); each row that meets fmt, with fmt's text TOLD by the authors' own Lean function (tested against real Go, not proved from fmt's source: count such statements apart). THE CARD IS WHAT COUNTS. Prove the row's statement (the work); the ties are given (YthclniimhpmeoaaGreatDoorTie.lean); close each card by the builder's one call (the guide's Derived/Test/ToyasCard.lean, 'card_holds'). Laid BY PROGRAM, IN A SANDBOX (cutbox-door.mjs). By AI agents, Wed Nov 11 2026. No macro, syntax, notation, axiom, sorry.
-/
import Derived.Test.YthclniimhpmeoaaGreatDoorRows
import GoSem.ClaimSeven
namespace Go.Proofs.YthclniimhpmeoaaGreatDoor
namespace Rows

/-- THE TIED CARD OF 'parishlaw13.WalForms'. -/
def walFormsCard : Claim7 := { stood := { row := walFormsRow, standIns := [], harness := (true, "c33b21d4d1cd9e090e7c9f6c2ef30b35876326632b97def64c612e20b4b49655"), looks := false }, kinds := [], alts := [], laidByText := true, laidKinds := [.data, .pinned], laidTests := true, laidLooks := .later }
def WalFormsCardSaid : Prop := Claim7.holds Tryz.pinned (.plain (OpenSpec.ofChange walFormsSpec)) walFormsCard

/-- THE TIED CARD OF 'parishlaw13.WalPlays'. -/
def walPlaysCard : Claim7 := { stood := { row := walPlaysRow, standIns := [], harness := (true, "c33b21d4d1cd9e090e7c9f6c2ef30b35876326632b97def64c612e20b4b49655"), looks := false }, kinds := [], alts := [], laidByText := true, laidKinds := [.data, .pinned], laidTests := true, laidLooks := .later }
def WalPlaysCardSaid : Prop := Claim7.holds Tryz.pinned (.plain (OpenSpec.ofChange walPlaysSpec)) walPlaysCard

/-- THE TIED CARD OF 'parishlaw10.MessageReads'. -/
def messageReadsCard : Claim7 := { stood := { row := messageReadsRow, standIns := [], harness := (true, "c33b21d4d1cd9e090e7c9f6c2ef30b35876326632b97def64c612e20b4b49655"), looks := false }, kinds := [], alts := [], laidByText := true, laidKinds := [.data, .pinned], laidTests := true, laidLooks := .later }
def MessageReadsCardSaid : Prop := Claim7.holds Tryz.pinned (.plain (OpenSpec.ofChange messageReadsSpec)) messageReadsCard

/-- THE SECOND FORM's CARD OF 'parishlaw13.WalForms'. -/
def walFormsUptoCard : Claim7 := { stood := { row := walFormsUptoRow, standIns := [], harness := (true, "c33b21d4d1cd9e090e7c9f6c2ef30b35876326632b97def64c612e20b4b49655"), looks := false }, kinds := [], alts := [], laidByText := true, laidKinds := [.data, .pinned], laidTests := true, laidLooks := .later }
def WalFormsUptoCardSaid : Prop := Claim7.holds Tryz.pinned (.plain (OpenSpec.upto walFormsSpec)) walFormsUptoCard

/-- THE SECOND FORM's CARD OF 'parishlaw13.WalPlays'. -/
def walPlaysUptoCard : Claim7 := { stood := { row := walPlaysUptoRow, standIns := [], harness := (true, "c33b21d4d1cd9e090e7c9f6c2ef30b35876326632b97def64c612e20b4b49655"), looks := false }, kinds := [], alts := [], laidByText := true, laidKinds := [.data, .pinned], laidTests := true, laidLooks := .later }
def WalPlaysUptoCardSaid : Prop := Claim7.holds Tryz.pinned (.plain (OpenSpec.upto walPlaysSpec)) walPlaysUptoCard

/-- THE SECOND FORM's CARD OF 'parishlaw10.MessageReads'. -/
def messageReadsUptoCard : Claim7 := { stood := { row := messageReadsUptoRow, standIns := [], harness := (true, "c33b21d4d1cd9e090e7c9f6c2ef30b35876326632b97def64c612e20b4b49655"), looks := false }, kinds := [], alts := [], laidByText := true, laidKinds := [.data, .pinned], laidTests := true, laidLooks := .later }
def MessageReadsUptoCardSaid : Prop := Claim7.holds Tryz.pinned (.plain (OpenSpec.upto messageReadsSpec)) messageReadsUptoCard
end Rows
end Go.Proofs.YthclniimhpmeoaaGreatDoor
