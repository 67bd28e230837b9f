/-
  DERIVED. GIVEN WITH THE SEED: THE CARDS: each row of YtjofjpmhokjhnaaDoorRows.lean that lists a variable, with what it lists TIED to the program's text (the seventh form; the later family's looks); each row that meets fmt, with fmt's text TOLD by the authors' own Lean function (tested against real Go, not proved from fmt's source: count such statements apart). THE CARD IS WHAT COUNTS. Prove the row's statement (the work); the ties are given (YtjofjpmhokjhnaaDoorTie.lean); close each card by the builder's one call (the guide's Derived/Test/ToyasCard.lean, 'card_holds'). Laid BY PROGRAM, IN A SANDBOX (cutbox-door.mjs). By AI agents, Wed Nov 11 2026. No macro, syntax, notation, axiom, sorry.
-/
import Derived.Test.YtjofjpmhokjhnaaDoorRows
import GoSem.ClaimSeven
namespace Go.Proofs.YtjofjpmhokjhnaaDoor
namespace Rows

/-- THE TIED CARD OF 'parishlaw10.MessageZero'. -/
def messageZeroCard : Claim7 := { stood := { row := messageZeroRow, standIns := [], harness := (true, "e0680f3537cdd22968e783b7ea03883dadfbcb28ba3e612c6837df39a2be852c"), looks := false }, kinds := [], alts := [], laidByText := true, laidKinds := [.data, .pinned], laidTests := true, laidLooks := .later }
def MessageZeroCardSaid : Prop := Claim7.holds Tryd.pinned (.plain (OpenSpec.ofChange messageZeroSpec)) messageZeroCard

/-- THE TIED CARD OF 'parishlaw10.MessageForms'. -/
def messageFormsCard : Claim7 := { stood := { row := messageFormsRow, standIns := [], harness := (true, "e0680f3537cdd22968e783b7ea03883dadfbcb28ba3e612c6837df39a2be852c"), looks := false }, kinds := [], alts := [], laidByText := true, laidKinds := [.data, .pinned], laidTests := true, laidLooks := .later }
def MessageFormsCardSaid : Prop := Claim7.holds Tryd.pinned (.plain (OpenSpec.ofChange messageFormsSpec)) messageFormsCard

/-- THE TIED CARD OF 'parishlaw10.MessageWrites'. -/
def messageWritesCard : Claim7 := { stood := { row := messageWritesRow, standIns := [], harness := (true, "e0680f3537cdd22968e783b7ea03883dadfbcb28ba3e612c6837df39a2be852c"), looks := false }, kinds := [], alts := [], laidByText := true, laidKinds := [.data, .pinned], laidTests := true, laidLooks := .later }
def MessageWritesCardSaid : Prop := Claim7.holds Tryd.pinned (.plain (OpenSpec.ofChange messageWritesSpec)) messageWritesCard

/-- THE TIED CARD OF 'parishlaw13.WalLasts'. -/
def walLastsCard : Claim7 := { stood := { row := walLastsRow, standIns := [], harness := (true, "e0680f3537cdd22968e783b7ea03883dadfbcb28ba3e612c6837df39a2be852c"), looks := false }, kinds := [], alts := [], laidByText := true, laidKinds := [.data, .pinned], laidTests := true, laidLooks := .later }
def WalLastsCardSaid : Prop := Claim7.holds Tryd.pinned (.plain (OpenSpec.ofChange walLastsSpec)) walLastsCard

/-- THE TIED CARD OF 'parishlaw13.WalTorn'. -/
def walTornCard : Claim7 := { stood := { row := walTornRow, standIns := [], harness := (true, "e0680f3537cdd22968e783b7ea03883dadfbcb28ba3e612c6837df39a2be852c"), looks := false }, kinds := [], alts := [], laidByText := true, laidKinds := [.data, .pinned], laidTests := true, laidLooks := .later }
def WalTornCardSaid : Prop := Claim7.holds Tryd.pinned (.plain (OpenSpec.ofChange walTornSpec)) walTornCard

/-- THE TIED CARD OF 'parishlaw13.WalCompacts'. -/
def walCompactsCard : Claim7 := { stood := { row := walCompactsRow, standIns := [], harness := (true, "e0680f3537cdd22968e783b7ea03883dadfbcb28ba3e612c6837df39a2be852c"), looks := false }, kinds := [], alts := [], laidByText := true, laidKinds := [.data, .pinned], laidTests := true, laidLooks := .later }
def WalCompactsCardSaid : Prop := Claim7.holds Tryd.pinned (.plain (OpenSpec.ofChange walCompactsSpec)) walCompactsCard

/-- THE TIED CARD OF 'parishlaw10.MessageBack'. -/
def messageBackCard : Claim7 := { stood := { row := messageBackRow, standIns := [], harness := (true, "e0680f3537cdd22968e783b7ea03883dadfbcb28ba3e612c6837df39a2be852c"), looks := false }, kinds := [], alts := [], laidByText := true, laidKinds := [.data, .pinned], laidTests := true, laidLooks := .later }
def MessageBackCardSaid : Prop := Claim7.holds Tryd.pinned (.plain (OpenSpec.ofChange messageBackSpec)) messageBackCard

/-- THE TIED CARD OF 'parishlaw10.MessageLabels'. -/
def messageLabelsCard : Claim7 := { stood := { row := messageLabelsRow, standIns := [], harness := (true, "e0680f3537cdd22968e783b7ea03883dadfbcb28ba3e612c6837df39a2be852c"), looks := false }, kinds := [], alts := [], laidByText := true, laidKinds := [.data, .pinned], laidTests := true, laidLooks := .later }
def MessageLabelsCardSaid : Prop := Claim7.holds Tryd.pinned (.plain (OpenSpec.ofChange messageLabelsSpec)) messageLabelsCard

/-- THE SECOND FORM's CARD OF 'parishlaw10.MessageZero'. -/
def messageZeroUptoCard : Claim7 := { stood := { row := messageZeroUptoRow, standIns := [], harness := (true, "e0680f3537cdd22968e783b7ea03883dadfbcb28ba3e612c6837df39a2be852c"), looks := false }, kinds := [], alts := [], laidByText := true, laidKinds := [.data, .pinned], laidTests := true, laidLooks := .later }
def MessageZeroUptoCardSaid : Prop := Claim7.holds Tryd.pinned (.plain (OpenSpec.upto messageZeroSpec)) messageZeroUptoCard

/-- THE SECOND FORM's CARD OF 'parishlaw10.MessageForms'. -/
def messageFormsUptoCard : Claim7 := { stood := { row := messageFormsUptoRow, standIns := [], harness := (true, "e0680f3537cdd22968e783b7ea03883dadfbcb28ba3e612c6837df39a2be852c"), looks := false }, kinds := [], alts := [], laidByText := true, laidKinds := [.data, .pinned], laidTests := true, laidLooks := .later }
def MessageFormsUptoCardSaid : Prop := Claim7.holds Tryd.pinned (.plain (OpenSpec.upto messageFormsSpec)) messageFormsUptoCard

/-- THE SECOND FORM's CARD OF 'parishlaw10.MessageWrites'. -/
def messageWritesUptoCard : Claim7 := { stood := { row := messageWritesUptoRow, standIns := [], harness := (true, "e0680f3537cdd22968e783b7ea03883dadfbcb28ba3e612c6837df39a2be852c"), looks := false }, kinds := [], alts := [], laidByText := true, laidKinds := [.data, .pinned], laidTests := true, laidLooks := .later }
def MessageWritesUptoCardSaid : Prop := Claim7.holds Tryd.pinned (.plain (OpenSpec.upto messageWritesSpec)) messageWritesUptoCard

/-- THE SECOND FORM's CARD OF 'parishlaw13.WalLasts'. -/
def walLastsUptoCard : Claim7 := { stood := { row := walLastsUptoRow, standIns := [], harness := (true, "e0680f3537cdd22968e783b7ea03883dadfbcb28ba3e612c6837df39a2be852c"), looks := false }, kinds := [], alts := [], laidByText := true, laidKinds := [.data, .pinned], laidTests := true, laidLooks := .later }
def WalLastsUptoCardSaid : Prop := Claim7.holds Tryd.pinned (.plain (OpenSpec.upto walLastsSpec)) walLastsUptoCard

/-- THE SECOND FORM's CARD OF 'parishlaw13.WalTorn'. -/
def walTornUptoCard : Claim7 := { stood := { row := walTornUptoRow, standIns := [], harness := (true, "e0680f3537cdd22968e783b7ea03883dadfbcb28ba3e612c6837df39a2be852c"), looks := false }, kinds := [], alts := [], laidByText := true, laidKinds := [.data, .pinned], laidTests := true, laidLooks := .later }
def WalTornUptoCardSaid : Prop := Claim7.holds Tryd.pinned (.plain (OpenSpec.upto walTornSpec)) walTornUptoCard

/-- THE SECOND FORM's CARD OF 'parishlaw13.WalCompacts'. -/
def walCompactsUptoCard : Claim7 := { stood := { row := walCompactsUptoRow, standIns := [], harness := (true, "e0680f3537cdd22968e783b7ea03883dadfbcb28ba3e612c6837df39a2be852c"), looks := false }, kinds := [], alts := [], laidByText := true, laidKinds := [.data, .pinned], laidTests := true, laidLooks := .later }
def WalCompactsUptoCardSaid : Prop := Claim7.holds Tryd.pinned (.plain (OpenSpec.upto walCompactsSpec)) walCompactsUptoCard

/-- THE SECOND FORM's CARD OF 'parishlaw10.MessageBack'. -/
def messageBackUptoCard : Claim7 := { stood := { row := messageBackUptoRow, standIns := [], harness := (true, "e0680f3537cdd22968e783b7ea03883dadfbcb28ba3e612c6837df39a2be852c"), looks := false }, kinds := [], alts := [], laidByText := true, laidKinds := [.data, .pinned], laidTests := true, laidLooks := .later }
def MessageBackUptoCardSaid : Prop := Claim7.holds Tryd.pinned (.plain (OpenSpec.upto messageBackSpec)) messageBackUptoCard

/-- THE SECOND FORM's CARD OF 'parishlaw10.MessageLabels'. -/
def messageLabelsUptoCard : Claim7 := { stood := { row := messageLabelsUptoRow, standIns := [], harness := (true, "e0680f3537cdd22968e783b7ea03883dadfbcb28ba3e612c6837df39a2be852c"), looks := false }, kinds := [], alts := [], laidByText := true, laidKinds := [.data, .pinned], laidTests := true, laidLooks := .later }
def MessageLabelsUptoCardSaid : Prop := Claim7.holds Tryd.pinned (.plain (OpenSpec.upto messageLabelsSpec)) messageLabelsUptoCard
end Rows
end Go.Proofs.YtjofjpmhokjhnaaDoor
