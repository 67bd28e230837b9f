/-
  NARROWER THAN 'FOR EVERY INPUT', by the rows' own cells (each row's printed sentence says how): MessageZero: laid · MessageForms: laid · MessageWrites: laid · WalLasts: laid · WalTorn: laid · WalCompacts: laid · MessageBack: laid · MessageLabels: laid.
  DERIVED. THE GIVEN ROWS OF THIS SEAT. 8 by the template 'for every input the law returns true; each argument reads behind the call as it read before'; 0 by the template 'total and deterministic' (their statements: YtjofjpmhokjhnaaDoorTotals.lean).
  GIVEN WITH THE SEED: the statements are not yours to turn. If you find one false, say at which input.
  Laid BY PROGRAM, IN A SANDBOX (cutbox-rows.mjs): the forced cells as the released guide's own fill.sh prints them over the translation 7458511417a35ab6… (all of the seat's roots in one cut). By AI agents, Wed Nov 11 2026. No macro, syntax, notation, axiom, sorry.
-/
import Derived.Test.YtjofjpmhokjhnaaDoorChecked
import GoSem.PinnedTables
import GoSem.Claim
import GoSem.ClaimJoined
import GoSem.ClaimMapViews
import Derived.JoinedTies
import Derived.KernelRfl
namespace Go.Proofs.YtjofjpmhokjhnaaDoor
/- THE CELL 'sum', in the pinned program and in every row, IS THE sha256 OF THE DUMP (.gsa) THAT YtjofjpmhokjhnaaDoorProg.lean LOADS. Nothing in Lean hashes anything: it is a label: what it is worth is what the hold of that sum in a sandbox is worth. -/
noncomputable def Tryd.pinned : Pinned := { name := "ytjofjpmhokjhnaadoor", sum := "7458511417a35ab6774222fbe2fffb4ff5b4e865e125be4188d214e5b10c7058", checked := Tryd.checked }
namespace Rows
def none {H : Type} : Left H := { results := [], args := [] }

/- WHAT THE LISTED PACKAGE-LEVEL VARIABLES READ AS WHEN THE CALL BEGINS. Each datum BY PROGRAM (the guide's laid-datum.mjs) off the statement by which the dump's own 'gosem.cut.vars' lays the variable. In a bare row this is a premise. The card (YtjofjpmhokjhnaaDoorCards.lean) ties it to the program's text. -/
def laid_unicode_utf8_acceptRanges {H : Type} : DataW H := .agg [.agg [.lit (.int .u8 128), .lit (.int .u8 191)], .agg [.lit (.int .u8 160), .lit (.int .u8 191)], .agg [.lit (.int .u8 128), .lit (.int .u8 159)], .agg [.lit (.int .u8 144), .lit (.int .u8 191)], .agg [.lit (.int .u8 128), .lit (.int .u8 143)], .agg [.lit (.int .u8 0), .lit (.int .u8 0)], .agg [.lit (.int .u8 0), .lit (.int .u8 0)], .agg [.lit (.int .u8 0), .lit (.int .u8 0)], .agg [.lit (.int .u8 0), .lit (.int .u8 0)], .agg [.lit (.int .u8 0), .lit (.int .u8 0)], .agg [.lit (.int .u8 0), .lit (.int .u8 0)], .agg [.lit (.int .u8 0), .lit (.int .u8 0)], .agg [.lit (.int .u8 0), .lit (.int .u8 0)], .agg [.lit (.int .u8 0), .lit (.int .u8 0)], .agg [.lit (.int .u8 0), .lit (.int .u8 0)], .agg [.lit (.int .u8 0), .lit (.int .u8 0)]]
/-- One of Go's own tables, pinned by name: the form's constant. -/
def laid_unicode_utf8_first : DataW Unit := Go.Pinned.utf8First

/-- 'parishlaw10.MessageZero': WHATEVER THE INPUT: true; the input reads as it did. -/
def messageZeroSpec : ChangeSpec := { name := "messageZero", fn := fun _ => fun
  | [d1, d2, d3] => { results := [.lit (.bool true)], args := [d1, d2, d3] }
  | _ => none }
def messageZeroRow : OpenClaim := { program := "ytjofjpmhokjhnaadoor", sum := "7458511417a35ab6774222fbe2fffb4ff5b4e865e125be4188d214e5b10c7058", func := "parish/parishlaw10.MessageZero", spec := "messageZero", inPlace := ["internal/bytealg.IndexByteString", "internal/bytealg.IndexString", "math.Float64frombits"], unfollowed := true, recurses := true, named := ["internal/bytealg.MaxLen", "unicode/utf8.first", "unicode/utf8.acceptRanges"], apart := false, laid := [("unicode/utf8.acceptRanges", laid_unicode_utf8_acceptRanges), ("unicode/utf8.first", laid_unicode_utf8_first)] }
def MessageZeroSaid : Prop := messageZeroRow.holds Tryd.pinned (OpenSpec.ofChange messageZeroSpec)

/-- ITS FALSE NEIGHBOUR: 'it returns false'. Refute it at one input. -/
def messageZeroWrong : ChangeSpec := { name := "messageZero", fn := fun _ => fun
  | [d1, d2, d3] => { results := [.lit (.bool false)], args := [d1, d2, d3] }
  | _ => none }
def MessageZeroWrongFalsely : Prop := messageZeroRow.holds Tryd.pinned (OpenSpec.ofChange messageZeroWrong)

/-- 'parishlaw10.MessageForms': WHATEVER THE INPUT: true; the input reads as it did. -/
def messageFormsSpec : ChangeSpec := { name := "messageForms", fn := fun _ => fun
  | [d1, d2] => { results := [.lit (.bool true)], args := [d1, d2] }
  | _ => none }
def messageFormsRow : OpenClaim := { program := "ytjofjpmhokjhnaadoor", sum := "7458511417a35ab6774222fbe2fffb4ff5b4e865e125be4188d214e5b10c7058", func := "parish/parishlaw10.MessageForms", spec := "messageForms", inPlace := ["internal/bytealg.IndexByteString", "internal/bytealg.IndexString", "math.Float64frombits"], unfollowed := true, recurses := true, named := ["internal/bytealg.MaxLen", "unicode/utf8.first", "unicode/utf8.acceptRanges"], apart := false, laid := [("unicode/utf8.acceptRanges", laid_unicode_utf8_acceptRanges), ("unicode/utf8.first", laid_unicode_utf8_first)] }
def MessageFormsSaid : Prop := messageFormsRow.holds Tryd.pinned (OpenSpec.ofChange messageFormsSpec)

/-- ITS FALSE NEIGHBOUR: 'it returns false'. Refute it at one input. -/
def messageFormsWrong : ChangeSpec := { name := "messageForms", fn := fun _ => fun
  | [d1, d2] => { results := [.lit (.bool false)], args := [d1, d2] }
  | _ => none }
def MessageFormsWrongFalsely : Prop := messageFormsRow.holds Tryd.pinned (OpenSpec.ofChange messageFormsWrong)

/-- 'parishlaw10.MessageWrites': WHATEVER THE INPUT: true; the input reads as it did. -/
def messageWritesSpec : ChangeSpec := { name := "messageWrites", fn := fun _ => fun
  | [d] => { results := [.lit (.bool true)], args := [d] }
  | _ => none }
def messageWritesRow : OpenClaim := { program := "ytjofjpmhokjhnaadoor", sum := "7458511417a35ab6774222fbe2fffb4ff5b4e865e125be4188d214e5b10c7058", func := "parish/parishlaw10.MessageWrites", spec := "messageWrites", inPlace := ["internal/bytealg.IndexByteString", "internal/bytealg.IndexString", "math.Float64frombits"], unfollowed := true, recurses := true, named := ["internal/bytealg.MaxLen", "unicode/utf8.first", "unicode/utf8.acceptRanges"], apart := false, laid := [("unicode/utf8.acceptRanges", laid_unicode_utf8_acceptRanges), ("unicode/utf8.first", laid_unicode_utf8_first)] }
def MessageWritesSaid : Prop := messageWritesRow.holds Tryd.pinned (OpenSpec.ofChange messageWritesSpec)

/-- ITS FALSE NEIGHBOUR: 'it returns false'. Refute it at one input. -/
def messageWritesWrong : ChangeSpec := { name := "messageWrites", fn := fun _ => fun
  | [d] => { results := [.lit (.bool false)], args := [d] }
  | _ => none }
def MessageWritesWrongFalsely : Prop := messageWritesRow.holds Tryd.pinned (OpenSpec.ofChange messageWritesWrong)

/-- 'parishlaw13.WalLasts': WHATEVER THE INPUT: true; the input reads as it did. -/
def walLastsSpec : ChangeSpec := { name := "walLasts", fn := fun _ => fun
  | [d1, d2, d3] => { results := [.lit (.bool true)], args := [d1, d2, d3] }
  | _ => none }
def walLastsRow : OpenClaim := { program := "ytjofjpmhokjhnaadoor", sum := "7458511417a35ab6774222fbe2fffb4ff5b4e865e125be4188d214e5b10c7058", func := "parish/parishlaw13.WalLasts", spec := "walLasts", inPlace := ["math.Float64frombits", "internal/bytealg.IndexByteString", "internal/bytealg.IndexString"], unfollowed := true, recurses := true, named := ["unicode/utf8.first", "unicode/utf8.acceptRanges", "internal/bytealg.MaxLen"], apart := false, laid := [("unicode/utf8.acceptRanges", laid_unicode_utf8_acceptRanges), ("unicode/utf8.first", laid_unicode_utf8_first)] }
def WalLastsSaid : Prop := walLastsRow.holds Tryd.pinned (OpenSpec.ofChange walLastsSpec)

/-- ITS FALSE NEIGHBOUR: 'it returns false'. Refute it at one input. -/
def walLastsWrong : ChangeSpec := { name := "walLasts", fn := fun _ => fun
  | [d1, d2, d3] => { results := [.lit (.bool false)], args := [d1, d2, d3] }
  | _ => none }
def WalLastsWrongFalsely : Prop := walLastsRow.holds Tryd.pinned (OpenSpec.ofChange walLastsWrong)

/-- 'parishlaw13.WalTorn': WHATEVER THE INPUT: true; the input reads as it did. -/
def walTornSpec : ChangeSpec := { name := "walTorn", fn := fun _ => fun
  | [d1, d2, d3] => { results := [.lit (.bool true)], args := [d1, d2, d3] }
  | _ => none }
def walTornRow : OpenClaim := { program := "ytjofjpmhokjhnaadoor", sum := "7458511417a35ab6774222fbe2fffb4ff5b4e865e125be4188d214e5b10c7058", func := "parish/parishlaw13.WalTorn", spec := "walTorn", inPlace := ["math.Float64frombits", "internal/bytealg.IndexByteString", "internal/bytealg.IndexString"], unfollowed := true, recurses := true, named := ["unicode/utf8.first", "unicode/utf8.acceptRanges", "internal/bytealg.MaxLen"], apart := false, laid := [("unicode/utf8.acceptRanges", laid_unicode_utf8_acceptRanges), ("unicode/utf8.first", laid_unicode_utf8_first)] }
def WalTornSaid : Prop := walTornRow.holds Tryd.pinned (OpenSpec.ofChange walTornSpec)

/-- ITS FALSE NEIGHBOUR: 'it returns false'. Refute it at one input. -/
def walTornWrong : ChangeSpec := { name := "walTorn", fn := fun _ => fun
  | [d1, d2, d3] => { results := [.lit (.bool false)], args := [d1, d2, d3] }
  | _ => none }
def WalTornWrongFalsely : Prop := walTornRow.holds Tryd.pinned (OpenSpec.ofChange walTornWrong)

/-- 'parishlaw13.WalCompacts': WHATEVER THE INPUT: true; the input reads as it did. -/
def walCompactsSpec : ChangeSpec := { name := "walCompacts", fn := fun _ => fun
  | [d1, d2, d3] => { results := [.lit (.bool true)], args := [d1, d2, d3] }
  | _ => none }
def walCompactsRow : OpenClaim := { program := "ytjofjpmhokjhnaadoor", sum := "7458511417a35ab6774222fbe2fffb4ff5b4e865e125be4188d214e5b10c7058", func := "parish/parishlaw13.WalCompacts", spec := "walCompacts", inPlace := ["math.Float64frombits", "internal/bytealg.IndexByteString", "internal/bytealg.IndexString"], unfollowed := true, recurses := true, named := ["unicode/utf8.first", "unicode/utf8.acceptRanges", "internal/bytealg.MaxLen"], apart := false, laid := [("unicode/utf8.acceptRanges", laid_unicode_utf8_acceptRanges), ("unicode/utf8.first", laid_unicode_utf8_first)] }
def WalCompactsSaid : Prop := walCompactsRow.holds Tryd.pinned (OpenSpec.ofChange walCompactsSpec)

/-- ITS FALSE NEIGHBOUR: 'it returns false'. Refute it at one input. -/
def walCompactsWrong : ChangeSpec := { name := "walCompacts", fn := fun _ => fun
  | [d1, d2, d3] => { results := [.lit (.bool false)], args := [d1, d2, d3] }
  | _ => none }
def WalCompactsWrongFalsely : Prop := walCompactsRow.holds Tryd.pinned (OpenSpec.ofChange walCompactsWrong)

/-- 'parishlaw10.MessageBack': WHATEVER THE INPUT: true; the input reads as it did. -/
def messageBackSpec : ChangeSpec := { name := "messageBack", fn := fun _ => fun
  | [d1, d2] => { results := [.lit (.bool true)], args := [d1, d2] }
  | _ => none }
def messageBackRow : OpenClaim := { program := "ytjofjpmhokjhnaadoor", sum := "7458511417a35ab6774222fbe2fffb4ff5b4e865e125be4188d214e5b10c7058", func := "parish/parishlaw10.MessageBack", spec := "messageBack", inPlace := ["internal/bytealg.IndexByteString", "internal/bytealg.IndexString", "math.Float64frombits"], unfollowed := true, recurses := true, named := ["internal/bytealg.MaxLen", "unicode/utf8.first", "unicode/utf8.acceptRanges"], apart := false, laid := [("unicode/utf8.acceptRanges", laid_unicode_utf8_acceptRanges), ("unicode/utf8.first", laid_unicode_utf8_first)] }
def MessageBackSaid : Prop := messageBackRow.holds Tryd.pinned (OpenSpec.ofChange messageBackSpec)

/-- ITS FALSE NEIGHBOUR: 'it returns false'. Refute it at one input. -/
def messageBackWrong : ChangeSpec := { name := "messageBack", fn := fun _ => fun
  | [d1, d2] => { results := [.lit (.bool false)], args := [d1, d2] }
  | _ => none }
def MessageBackWrongFalsely : Prop := messageBackRow.holds Tryd.pinned (OpenSpec.ofChange messageBackWrong)

/-- 'parishlaw10.MessageLabels': WHATEVER THE INPUT: true; the input reads as it did. -/
def messageLabelsSpec : ChangeSpec := { name := "messageLabels", fn := fun _ => fun
  | [d] => { results := [.lit (.bool true)], args := [d] }
  | _ => none }
def messageLabelsRow : OpenClaim := { program := "ytjofjpmhokjhnaadoor", sum := "7458511417a35ab6774222fbe2fffb4ff5b4e865e125be4188d214e5b10c7058", func := "parish/parishlaw10.MessageLabels", spec := "messageLabels", inPlace := ["internal/bytealg.IndexByteString", "internal/bytealg.IndexString", "math.Float64frombits"], unfollowed := true, recurses := true, named := ["internal/bytealg.MaxLen", "unicode/utf8.first", "unicode/utf8.acceptRanges"], apart := false, laid := [("unicode/utf8.acceptRanges", laid_unicode_utf8_acceptRanges), ("unicode/utf8.first", laid_unicode_utf8_first)] }
def MessageLabelsSaid : Prop := messageLabelsRow.holds Tryd.pinned (OpenSpec.ofChange messageLabelsSpec)

/-- ITS FALSE NEIGHBOUR: 'it returns false'. Refute it at one input. -/
def messageLabelsWrong : ChangeSpec := { name := "messageLabels", fn := fun _ => fun
  | [d] => { results := [.lit (.bool false)], args := [d] }
  | _ => none }
def MessageLabelsWrongFalsely : Prop := messageLabelsRow.holds Tryd.pinned (OpenSpec.ofChange messageLabelsWrong)

/- THE SECOND FORM. 'bulk': how many values and letters a reading holds, each counted each time it is reached (what is shared counts as often as it is met; a slice's spare places count too). A statement '..UptoSaid' is the law's where the arguments, and the package variables that the reading takes, are together of bulk at most 1048576: NARROWER than '..Said'. Prove '..Said' where nothing that the law and all that it calls make is longer than what came in: it says more and counts as full. Else prove '..UptoSaid'. A law counts once. -/
mutual
def uptoBulk {H : Type} : DataW H → Nat
  | .lit (.string bytes) => bytes.length + 1
  | .lit _ => 1
  | .nil => 1
  | .ptr d => uptoBulk d + 1
  | .slice elems spare => uptoBulkAll elems + uptoBulkAll spare + 1
  | .agg parts => uptoBulkAll parts + 1
  | .iface _ d => uptoBulk d + 1
  | .map entries => uptoBulkEntries entries + 1
  | .held _ => 1
def uptoBulkAll {H : Type} : List (DataW H) → Nat
  | [] => 0
  | d :: r => uptoBulk d + uptoBulkAll r
def uptoBulkEntries {H : Type} : List (Lit × DataW H) → Nat
  | [] => 0
  | x :: r => uptoBulkEntry x + uptoBulkEntries r
def uptoBulkEntry {H : Type} : Lit × DataW H → Nat
  | (.string bytes, d) => bytes.length + uptoBulk d + 1
  | (_, d) => uptoBulk d + 1
 end
def uptoSmall : (H : Type) → List (DataW H) → Bool := fun _ ds => decide (uptoBulkAll ds ≤ 1048576)
def OpenSpec.upto (s : _root_.Go.ChangeSpec) : _root_.Go.OpenSpec := { _root_.Go.OpenSpec.ofChange s with cond := some uptoSmall }

/-- 'parishlaw10.MessageZero', WHERE WHAT IT READS IS OF BULK AT MOST 1048576: true; the input reads as it did. -/
def messageZeroUptoRow : OpenClaim := { program := "ytjofjpmhokjhnaadoor", sum := "7458511417a35ab6774222fbe2fffb4ff5b4e865e125be4188d214e5b10c7058", func := "parish/parishlaw10.MessageZero", spec := "messageZero", inPlace := ["internal/bytealg.IndexByteString", "internal/bytealg.IndexString", "math.Float64frombits"], unfollowed := true, recurses := true, named := ["internal/bytealg.MaxLen", "unicode/utf8.first", "unicode/utf8.acceptRanges"], apart := false, laid := [("unicode/utf8.acceptRanges", laid_unicode_utf8_acceptRanges), ("unicode/utf8.first", laid_unicode_utf8_first)], narrowed := true }
def MessageZeroUptoSaid : Prop := messageZeroUptoRow.holds Tryd.pinned (OpenSpec.upto messageZeroSpec)

/-- 'parishlaw10.MessageForms', WHERE WHAT IT READS IS OF BULK AT MOST 1048576: true; the input reads as it did. -/
def messageFormsUptoRow : OpenClaim := { program := "ytjofjpmhokjhnaadoor", sum := "7458511417a35ab6774222fbe2fffb4ff5b4e865e125be4188d214e5b10c7058", func := "parish/parishlaw10.MessageForms", spec := "messageForms", inPlace := ["internal/bytealg.IndexByteString", "internal/bytealg.IndexString", "math.Float64frombits"], unfollowed := true, recurses := true, named := ["internal/bytealg.MaxLen", "unicode/utf8.first", "unicode/utf8.acceptRanges"], apart := false, laid := [("unicode/utf8.acceptRanges", laid_unicode_utf8_acceptRanges), ("unicode/utf8.first", laid_unicode_utf8_first)], narrowed := true }
def MessageFormsUptoSaid : Prop := messageFormsUptoRow.holds Tryd.pinned (OpenSpec.upto messageFormsSpec)

/-- 'parishlaw10.MessageWrites', WHERE WHAT IT READS IS OF BULK AT MOST 1048576: true; the input reads as it did. -/
def messageWritesUptoRow : OpenClaim := { program := "ytjofjpmhokjhnaadoor", sum := "7458511417a35ab6774222fbe2fffb4ff5b4e865e125be4188d214e5b10c7058", func := "parish/parishlaw10.MessageWrites", spec := "messageWrites", inPlace := ["internal/bytealg.IndexByteString", "internal/bytealg.IndexString", "math.Float64frombits"], unfollowed := true, recurses := true, named := ["internal/bytealg.MaxLen", "unicode/utf8.first", "unicode/utf8.acceptRanges"], apart := false, laid := [("unicode/utf8.acceptRanges", laid_unicode_utf8_acceptRanges), ("unicode/utf8.first", laid_unicode_utf8_first)], narrowed := true }
def MessageWritesUptoSaid : Prop := messageWritesUptoRow.holds Tryd.pinned (OpenSpec.upto messageWritesSpec)

/-- 'parishlaw13.WalLasts', WHERE WHAT IT READS IS OF BULK AT MOST 1048576: true; the input reads as it did. -/
def walLastsUptoRow : OpenClaim := { program := "ytjofjpmhokjhnaadoor", sum := "7458511417a35ab6774222fbe2fffb4ff5b4e865e125be4188d214e5b10c7058", func := "parish/parishlaw13.WalLasts", spec := "walLasts", inPlace := ["math.Float64frombits", "internal/bytealg.IndexByteString", "internal/bytealg.IndexString"], unfollowed := true, recurses := true, named := ["unicode/utf8.first", "unicode/utf8.acceptRanges", "internal/bytealg.MaxLen"], apart := false, laid := [("unicode/utf8.acceptRanges", laid_unicode_utf8_acceptRanges), ("unicode/utf8.first", laid_unicode_utf8_first)], narrowed := true }
def WalLastsUptoSaid : Prop := walLastsUptoRow.holds Tryd.pinned (OpenSpec.upto walLastsSpec)

/-- 'parishlaw13.WalTorn', WHERE WHAT IT READS IS OF BULK AT MOST 1048576: true; the input reads as it did. -/
def walTornUptoRow : OpenClaim := { program := "ytjofjpmhokjhnaadoor", sum := "7458511417a35ab6774222fbe2fffb4ff5b4e865e125be4188d214e5b10c7058", func := "parish/parishlaw13.WalTorn", spec := "walTorn", inPlace := ["math.Float64frombits", "internal/bytealg.IndexByteString", "internal/bytealg.IndexString"], unfollowed := true, recurses := true, named := ["unicode/utf8.first", "unicode/utf8.acceptRanges", "internal/bytealg.MaxLen"], apart := false, laid := [("unicode/utf8.acceptRanges", laid_unicode_utf8_acceptRanges), ("unicode/utf8.first", laid_unicode_utf8_first)], narrowed := true }
def WalTornUptoSaid : Prop := walTornUptoRow.holds Tryd.pinned (OpenSpec.upto walTornSpec)

/-- 'parishlaw13.WalCompacts', WHERE WHAT IT READS IS OF BULK AT MOST 1048576: true; the input reads as it did. -/
def walCompactsUptoRow : OpenClaim := { program := "ytjofjpmhokjhnaadoor", sum := "7458511417a35ab6774222fbe2fffb4ff5b4e865e125be4188d214e5b10c7058", func := "parish/parishlaw13.WalCompacts", spec := "walCompacts", inPlace := ["math.Float64frombits", "internal/bytealg.IndexByteString", "internal/bytealg.IndexString"], unfollowed := true, recurses := true, named := ["unicode/utf8.first", "unicode/utf8.acceptRanges", "internal/bytealg.MaxLen"], apart := false, laid := [("unicode/utf8.acceptRanges", laid_unicode_utf8_acceptRanges), ("unicode/utf8.first", laid_unicode_utf8_first)], narrowed := true }
def WalCompactsUptoSaid : Prop := walCompactsUptoRow.holds Tryd.pinned (OpenSpec.upto walCompactsSpec)

/-- 'parishlaw10.MessageBack', WHERE WHAT IT READS IS OF BULK AT MOST 1048576: true; the input reads as it did. -/
def messageBackUptoRow : OpenClaim := { program := "ytjofjpmhokjhnaadoor", sum := "7458511417a35ab6774222fbe2fffb4ff5b4e865e125be4188d214e5b10c7058", func := "parish/parishlaw10.MessageBack", spec := "messageBack", inPlace := ["internal/bytealg.IndexByteString", "internal/bytealg.IndexString", "math.Float64frombits"], unfollowed := true, recurses := true, named := ["internal/bytealg.MaxLen", "unicode/utf8.first", "unicode/utf8.acceptRanges"], apart := false, laid := [("unicode/utf8.acceptRanges", laid_unicode_utf8_acceptRanges), ("unicode/utf8.first", laid_unicode_utf8_first)], narrowed := true }
def MessageBackUptoSaid : Prop := messageBackUptoRow.holds Tryd.pinned (OpenSpec.upto messageBackSpec)

/-- 'parishlaw10.MessageLabels', WHERE WHAT IT READS IS OF BULK AT MOST 1048576: true; the input reads as it did. -/
def messageLabelsUptoRow : OpenClaim := { program := "ytjofjpmhokjhnaadoor", sum := "7458511417a35ab6774222fbe2fffb4ff5b4e865e125be4188d214e5b10c7058", func := "parish/parishlaw10.MessageLabels", spec := "messageLabels", inPlace := ["internal/bytealg.IndexByteString", "internal/bytealg.IndexString", "math.Float64frombits"], unfollowed := true, recurses := true, named := ["internal/bytealg.MaxLen", "unicode/utf8.first", "unicode/utf8.acceptRanges"], apart := false, laid := [("unicode/utf8.acceptRanges", laid_unicode_utf8_acceptRanges), ("unicode/utf8.first", laid_unicode_utf8_first)], narrowed := true }
def MessageLabelsUptoSaid : Prop := messageLabelsUptoRow.holds Tryd.pinned (OpenSpec.upto messageLabelsSpec)

end Rows
end Go.Proofs.YtjofjpmhokjhnaaDoor
