/-
  DERIVED. GIVEN WITH THE SEED: THE CARDS: each row of YtdoclbonbjkomaaDoorRows.lean that lists a variable, with what it lists TIED to the program's text (the seventh form; the later family's looks); each row that meets fmt, with fmt's text TOLD by the authors' own Lean function (tested against real Go, not proved from fmt's source: count such statements apart). THE CARD IS WHAT COUNTS. Prove the row's statement (the work); the ties are given (YtdoclbonbjkomaaDoorTie.lean); close each card by the builder's one call (the guide's Derived/Test/ToyasCard.lean, 'card_holds'). Laid BY PROGRAM, IN A SANDBOX (cutbox-door.mjs). By AI agents, Wed Nov 11 2026. No macro, syntax, notation, axiom, sorry.
-/
import Derived.Test.YtdoclbonbjkomaaDoorRows
import GoSem.ClaimSeven
namespace Go.Proofs.YtdoclbonbjkomaaDoor
namespace Rows

/-- THE TIED CARD OF 'parishlaw04.ValueKeys'. -/
def valueKeysCard : Claim7 := { stood := { row := valueKeysRow, standIns := [], harness := (true, "63f0fc3f0f009b7713d70ebdcc9644eb5f8b4f196f3bf1a42df2af8b7e60e3af"), looks := false }, kinds := [], alts := [], laidByText := true, laidKinds := [.data, .pinned], laidTests := true, laidLooks := .later }
def ValueKeysCardSaid : Prop := Claim7.holds Tryd.pinned (.plain (OpenSpec.ofChange valueKeysSpec)) valueKeysCard

/-- THE TIED CARD OF 'parishlaw04.ValueForms'. -/
def valueFormsCard : Claim7 := { stood := { row := valueFormsRow, standIns := [], harness := (true, "63f0fc3f0f009b7713d70ebdcc9644eb5f8b4f196f3bf1a42df2af8b7e60e3af"), looks := false }, kinds := [], alts := [], laidByText := true, laidKinds := [.data, .pinned], laidTests := true, laidLooks := .later }
def ValueFormsCardSaid : Prop := Claim7.holds Tryd.pinned (.plain (OpenSpec.ofChange valueFormsSpec)) valueFormsCard

/-- THE TIED CARD OF 'parishlaw04.ValueOrder'. -/
def valueOrderCard : Claim7 := { stood := { row := valueOrderRow, standIns := [], harness := (true, "63f0fc3f0f009b7713d70ebdcc9644eb5f8b4f196f3bf1a42df2af8b7e60e3af"), looks := false }, kinds := [], alts := [], laidByText := true, laidKinds := [.data, .pinned], laidTests := true, laidLooks := .later }
def ValueOrderCardSaid : Prop := Claim7.holds Tryd.pinned (.plain (OpenSpec.ofChange valueOrderSpec)) valueOrderCard

/-- THE TIED CARD OF 'parishlaw04.ValueBytes'. -/
def valueBytesCard : Claim7 := { stood := { row := valueBytesRow, standIns := [], harness := (true, "63f0fc3f0f009b7713d70ebdcc9644eb5f8b4f196f3bf1a42df2af8b7e60e3af"), looks := false }, kinds := [], alts := [], laidByText := true, laidKinds := [.data, .pinned], laidTests := true, laidLooks := .later }
def ValueBytesCardSaid : Prop := Claim7.holds Tryd.pinned (.plain (OpenSpec.ofChange valueBytesSpec)) valueBytesCard

/-- THE SECOND FORM's CARD OF 'parishlaw04.ValueKeys'. -/
def valueKeysUptoCard : Claim7 := { stood := { row := valueKeysUptoRow, standIns := [], harness := (true, "63f0fc3f0f009b7713d70ebdcc9644eb5f8b4f196f3bf1a42df2af8b7e60e3af"), looks := false }, kinds := [], alts := [], laidByText := true, laidKinds := [.data, .pinned], laidTests := true, laidLooks := .later }
def ValueKeysUptoCardSaid : Prop := Claim7.holds Tryd.pinned (.plain (OpenSpec.upto valueKeysSpec)) valueKeysUptoCard

/-- THE SECOND FORM's CARD OF 'parishlaw04.ValueForms'. -/
def valueFormsUptoCard : Claim7 := { stood := { row := valueFormsUptoRow, standIns := [], harness := (true, "63f0fc3f0f009b7713d70ebdcc9644eb5f8b4f196f3bf1a42df2af8b7e60e3af"), looks := false }, kinds := [], alts := [], laidByText := true, laidKinds := [.data, .pinned], laidTests := true, laidLooks := .later }
def ValueFormsUptoCardSaid : Prop := Claim7.holds Tryd.pinned (.plain (OpenSpec.upto valueFormsSpec)) valueFormsUptoCard

/-- THE SECOND FORM's CARD OF 'parishlaw04.ValueOrder'. -/
def valueOrderUptoCard : Claim7 := { stood := { row := valueOrderUptoRow, standIns := [], harness := (true, "63f0fc3f0f009b7713d70ebdcc9644eb5f8b4f196f3bf1a42df2af8b7e60e3af"), looks := false }, kinds := [], alts := [], laidByText := true, laidKinds := [.data, .pinned], laidTests := true, laidLooks := .later }
def ValueOrderUptoCardSaid : Prop := Claim7.holds Tryd.pinned (.plain (OpenSpec.upto valueOrderSpec)) valueOrderUptoCard

/-- THE SECOND FORM's CARD OF 'parishlaw04.ValueBytes'. -/
def valueBytesUptoCard : Claim7 := { stood := { row := valueBytesUptoRow, standIns := [], harness := (true, "63f0fc3f0f009b7713d70ebdcc9644eb5f8b4f196f3bf1a42df2af8b7e60e3af"), looks := false }, kinds := [], alts := [], laidByText := true, laidKinds := [.data, .pinned], laidTests := true, laidLooks := .later }
def ValueBytesUptoCardSaid : Prop := Claim7.holds Tryd.pinned (.plain (OpenSpec.upto valueBytesSpec)) valueBytesUptoCard
end Rows
end Go.Proofs.YtdoclbonbjkomaaDoor
