/-
  NARROWER THAN 'FOR EVERY INPUT', by the rows' own cells (each row's printed sentence says how): AcceptPicks: laid · AcceptPlays: laid · AcceptOne: laid · CommandForms: laid · LeadOnce: laid · LeadStays: laid · LeadNil: laid · CommandBytes: laid · LeadAgree: laid.
  DERIVED. THE GIVEN ROWS OF THIS SEAT. 9 by the template 'for every input the law returns true; each argument reads behind the call as it read before'; 0 by the template 'total and deterministic' (their statements: YtbahooohkigcnaaDoorTotals.lean).
  GIVEN WITH THE SEED: the statements are not yours to turn. If you find one false, say at which input.
  Laid BY PROGRAM, IN A SANDBOX (cutbox-rows.mjs): the forced cells as the released guide's own fill.sh prints them over the translation a227e2baf15e2932… (all of the seat's roots in one cut). By AI agents, Wed Nov 11 2026. No macro, syntax, notation, axiom, sorry.
-/
import Derived.Test.YtbahooohkigcnaaDoorChecked
import GoSem.PinnedTables
import GoSem.Claim
import GoSem.ClaimJoined
import GoSem.ClaimMapViews
import Derived.JoinedTies
import Derived.KernelRfl
namespace Go.Proofs.YtbahooohkigcnaaDoor
/- THE CELL 'sum', in the pinned program and in every row, IS THE sha256 OF THE DUMP (.gsa) THAT YtbahooohkigcnaaDoorProg.lean LOADS. Nothing in Lean hashes anything: it is a label: what it is worth is what the hold of that sum in a sandbox is worth. -/
noncomputable def Tryd.pinned : Pinned := { name := "ytbahooohkigcnaadoor", sum := "a227e2baf15e2932e99a9dba8cf35e2c721b9136aa1748559b27ada326c8f112", checked := Tryd.checked }
namespace Rows
def none {H : Type} : Left H := { results := [], args := [] }

/- WHAT THE LISTED PACKAGE-LEVEL VARIABLES READ AS WHEN THE CALL BEGINS. Each datum BY PROGRAM (the guide's laid-datum.mjs) off the statement by which the dump's own 'gosem.cut.vars' lays the variable. In a bare row this is a premise. The card (YtbahooohkigcnaaDoorCards.lean) ties it to the program's text. -/
def laid_unicode_utf8_acceptRanges {H : Type} : DataW H := .agg [.agg [.lit (.int .u8 128), .lit (.int .u8 191)], .agg [.lit (.int .u8 160), .lit (.int .u8 191)], .agg [.lit (.int .u8 128), .lit (.int .u8 159)], .agg [.lit (.int .u8 144), .lit (.int .u8 191)], .agg [.lit (.int .u8 128), .lit (.int .u8 143)], .agg [.lit (.int .u8 0), .lit (.int .u8 0)], .agg [.lit (.int .u8 0), .lit (.int .u8 0)], .agg [.lit (.int .u8 0), .lit (.int .u8 0)], .agg [.lit (.int .u8 0), .lit (.int .u8 0)], .agg [.lit (.int .u8 0), .lit (.int .u8 0)], .agg [.lit (.int .u8 0), .lit (.int .u8 0)], .agg [.lit (.int .u8 0), .lit (.int .u8 0)], .agg [.lit (.int .u8 0), .lit (.int .u8 0)], .agg [.lit (.int .u8 0), .lit (.int .u8 0)], .agg [.lit (.int .u8 0), .lit (.int .u8 0)], .agg [.lit (.int .u8 0), .lit (.int .u8 0)]]
/-- One of Go's own tables, pinned by name: the form's constant. -/
def laid_unicode_utf8_first : DataW Unit := Go.Pinned.utf8First

/-- 'parishlaw18.AcceptPicks': WHATEVER THE INPUT: true; the input reads as it did. -/
def acceptPicksSpec : ChangeSpec := { name := "acceptPicks", fn := fun _ => fun
  | [d] => { results := [.lit (.bool true)], args := [d] }
  | _ => none }
def acceptPicksRow : OpenClaim := { program := "ytbahooohkigcnaadoor", sum := "a227e2baf15e2932e99a9dba8cf35e2c721b9136aa1748559b27ada326c8f112", func := "parish/parishlaw18.AcceptPicks", spec := "acceptPicks", inPlace := ["internal/bytealg.IndexByteString", "internal/bytealg.IndexString", "math.Float64frombits"], unfollowed := true, recurses := true, named := ["unicode/utf8.first", "unicode/utf8.acceptRanges", "internal/bytealg.MaxLen"], apart := false, laid := [("unicode/utf8.acceptRanges", laid_unicode_utf8_acceptRanges), ("unicode/utf8.first", laid_unicode_utf8_first)] }
def AcceptPicksSaid : Prop := acceptPicksRow.holds Tryd.pinned (OpenSpec.ofChange acceptPicksSpec)

/-- ITS FALSE NEIGHBOUR: 'it returns false'. Refute it at one input. -/
def acceptPicksWrong : ChangeSpec := { name := "acceptPicks", fn := fun _ => fun
  | [d] => { results := [.lit (.bool false)], args := [d] }
  | _ => none }
def AcceptPicksWrongFalsely : Prop := acceptPicksRow.holds Tryd.pinned (OpenSpec.ofChange acceptPicksWrong)

/-- 'parishlaw18.AcceptPlays': WHATEVER THE INPUT: true; the input reads as it did. -/
def acceptPlaysSpec : ChangeSpec := { name := "acceptPlays", fn := fun _ => fun
  | [d1, d2] => { results := [.lit (.bool true)], args := [d1, d2] }
  | _ => none }
def acceptPlaysRow : OpenClaim := { program := "ytbahooohkigcnaadoor", sum := "a227e2baf15e2932e99a9dba8cf35e2c721b9136aa1748559b27ada326c8f112", func := "parish/parishlaw18.AcceptPlays", spec := "acceptPlays", inPlace := ["internal/bytealg.IndexByteString", "internal/bytealg.IndexString", "math.Float64frombits"], unfollowed := true, recurses := true, named := ["unicode/utf8.first", "unicode/utf8.acceptRanges", "internal/bytealg.MaxLen"], apart := false, laid := [("unicode/utf8.acceptRanges", laid_unicode_utf8_acceptRanges), ("unicode/utf8.first", laid_unicode_utf8_first)] }
def AcceptPlaysSaid : Prop := acceptPlaysRow.holds Tryd.pinned (OpenSpec.ofChange acceptPlaysSpec)

/-- ITS FALSE NEIGHBOUR: 'it returns false'. Refute it at one input. -/
def acceptPlaysWrong : ChangeSpec := { name := "acceptPlays", fn := fun _ => fun
  | [d1, d2] => { results := [.lit (.bool false)], args := [d1, d2] }
  | _ => none }
def AcceptPlaysWrongFalsely : Prop := acceptPlaysRow.holds Tryd.pinned (OpenSpec.ofChange acceptPlaysWrong)

/-- 'parishlaw18.AcceptOne': WHATEVER THE INPUT: true; the input reads as it did. -/
def acceptOneSpec : ChangeSpec := { name := "acceptOne", fn := fun _ => fun
  | [d1, d2] => { results := [.lit (.bool true)], args := [d1, d2] }
  | _ => none }
def acceptOneRow : OpenClaim := { program := "ytbahooohkigcnaadoor", sum := "a227e2baf15e2932e99a9dba8cf35e2c721b9136aa1748559b27ada326c8f112", func := "parish/parishlaw18.AcceptOne", spec := "acceptOne", inPlace := ["internal/bytealg.IndexByteString", "internal/bytealg.IndexString", "math.Float64frombits"], unfollowed := true, recurses := true, named := ["unicode/utf8.first", "unicode/utf8.acceptRanges", "internal/bytealg.MaxLen"], apart := false, laid := [("unicode/utf8.acceptRanges", laid_unicode_utf8_acceptRanges), ("unicode/utf8.first", laid_unicode_utf8_first)] }
def AcceptOneSaid : Prop := acceptOneRow.holds Tryd.pinned (OpenSpec.ofChange acceptOneSpec)

/-- ITS FALSE NEIGHBOUR: 'it returns false'. Refute it at one input. -/
def acceptOneWrong : ChangeSpec := { name := "acceptOne", fn := fun _ => fun
  | [d1, d2] => { results := [.lit (.bool false)], args := [d1, d2] }
  | _ => none }
def AcceptOneWrongFalsely : Prop := acceptOneRow.holds Tryd.pinned (OpenSpec.ofChange acceptOneWrong)

/-- 'parishlaw09.CommandForms': WHATEVER THE INPUT: true; the input reads as it did. -/
def commandFormsSpec : ChangeSpec := { name := "commandForms", fn := fun _ => fun
  | [d1, d2] => { results := [.lit (.bool true)], args := [d1, d2] }
  | _ => none }
def commandFormsRow : OpenClaim := { program := "ytbahooohkigcnaadoor", sum := "a227e2baf15e2932e99a9dba8cf35e2c721b9136aa1748559b27ada326c8f112", func := "parish/parishlaw09.CommandForms", spec := "commandForms", inPlace := ["internal/bytealg.IndexByteString", "internal/bytealg.IndexString", "math.Float64frombits"], unfollowed := true, recurses := true, named := ["unicode/utf8.first", "unicode/utf8.acceptRanges", "internal/bytealg.MaxLen"], apart := false, laid := [("unicode/utf8.acceptRanges", laid_unicode_utf8_acceptRanges), ("unicode/utf8.first", laid_unicode_utf8_first)] }
def CommandFormsSaid : Prop := commandFormsRow.holds Tryd.pinned (OpenSpec.ofChange commandFormsSpec)

/-- ITS FALSE NEIGHBOUR: 'it returns false'. Refute it at one input. -/
def commandFormsWrong : ChangeSpec := { name := "commandForms", fn := fun _ => fun
  | [d1, d2] => { results := [.lit (.bool false)], args := [d1, d2] }
  | _ => none }
def CommandFormsWrongFalsely : Prop := commandFormsRow.holds Tryd.pinned (OpenSpec.ofChange commandFormsWrong)

/-- 'parishlaw19.LeadOnce': WHATEVER THE INPUT: true; the input reads as it did. -/
def leadOnceSpec : ChangeSpec := { name := "leadOnce", fn := fun _ => fun
  | [d1, d2] => { results := [.lit (.bool true)], args := [d1, d2] }
  | _ => none }
def leadOnceRow : OpenClaim := { program := "ytbahooohkigcnaadoor", sum := "a227e2baf15e2932e99a9dba8cf35e2c721b9136aa1748559b27ada326c8f112", func := "parish/parishlaw19.LeadOnce", spec := "leadOnce", inPlace := ["internal/bytealg.IndexByteString", "internal/bytealg.IndexString", "math.Float64frombits"], unfollowed := true, recurses := true, named := ["unicode/utf8.first", "unicode/utf8.acceptRanges", "internal/bytealg.MaxLen"], apart := false, laid := [("unicode/utf8.acceptRanges", laid_unicode_utf8_acceptRanges), ("unicode/utf8.first", laid_unicode_utf8_first)] }
def LeadOnceSaid : Prop := leadOnceRow.holds Tryd.pinned (OpenSpec.ofChange leadOnceSpec)

/-- ITS FALSE NEIGHBOUR: 'it returns false'. Refute it at one input. -/
def leadOnceWrong : ChangeSpec := { name := "leadOnce", fn := fun _ => fun
  | [d1, d2] => { results := [.lit (.bool false)], args := [d1, d2] }
  | _ => none }
def LeadOnceWrongFalsely : Prop := leadOnceRow.holds Tryd.pinned (OpenSpec.ofChange leadOnceWrong)

/-- 'parishlaw19.LeadStays': WHATEVER THE INPUT: true; the input reads as it did. -/
def leadStaysSpec : ChangeSpec := { name := "leadStays", fn := fun _ => fun
  | [d1, d2] => { results := [.lit (.bool true)], args := [d1, d2] }
  | _ => none }
def leadStaysRow : OpenClaim := { program := "ytbahooohkigcnaadoor", sum := "a227e2baf15e2932e99a9dba8cf35e2c721b9136aa1748559b27ada326c8f112", func := "parish/parishlaw19.LeadStays", spec := "leadStays", inPlace := ["internal/bytealg.IndexByteString", "internal/bytealg.IndexString", "math.Float64frombits"], unfollowed := true, recurses := true, named := ["unicode/utf8.first", "unicode/utf8.acceptRanges", "internal/bytealg.MaxLen"], apart := false, laid := [("unicode/utf8.acceptRanges", laid_unicode_utf8_acceptRanges), ("unicode/utf8.first", laid_unicode_utf8_first)] }
def LeadStaysSaid : Prop := leadStaysRow.holds Tryd.pinned (OpenSpec.ofChange leadStaysSpec)

/-- ITS FALSE NEIGHBOUR: 'it returns false'. Refute it at one input. -/
def leadStaysWrong : ChangeSpec := { name := "leadStays", fn := fun _ => fun
  | [d1, d2] => { results := [.lit (.bool false)], args := [d1, d2] }
  | _ => none }
def LeadStaysWrongFalsely : Prop := leadStaysRow.holds Tryd.pinned (OpenSpec.ofChange leadStaysWrong)

/-- 'parishlaw19.LeadNil': WHATEVER THE INPUT: true; the input reads as it did. -/
def leadNilSpec : ChangeSpec := { name := "leadNil", fn := fun _ => fun
  | [d1, d2, d3] => { results := [.lit (.bool true)], args := [d1, d2, d3] }
  | _ => none }
def leadNilRow : OpenClaim := { program := "ytbahooohkigcnaadoor", sum := "a227e2baf15e2932e99a9dba8cf35e2c721b9136aa1748559b27ada326c8f112", func := "parish/parishlaw19.LeadNil", spec := "leadNil", inPlace := ["internal/bytealg.IndexByteString", "internal/bytealg.IndexString", "math.Float64frombits"], unfollowed := true, recurses := true, named := ["unicode/utf8.first", "unicode/utf8.acceptRanges", "internal/bytealg.MaxLen"], apart := false, laid := [("unicode/utf8.acceptRanges", laid_unicode_utf8_acceptRanges), ("unicode/utf8.first", laid_unicode_utf8_first)] }
def LeadNilSaid : Prop := leadNilRow.holds Tryd.pinned (OpenSpec.ofChange leadNilSpec)

/-- ITS FALSE NEIGHBOUR: 'it returns false'. Refute it at one input. -/
def leadNilWrong : ChangeSpec := { name := "leadNil", fn := fun _ => fun
  | [d1, d2, d3] => { results := [.lit (.bool false)], args := [d1, d2, d3] }
  | _ => none }
def LeadNilWrongFalsely : Prop := leadNilRow.holds Tryd.pinned (OpenSpec.ofChange leadNilWrong)

/-- 'parishlaw09.CommandBytes': WHATEVER THE INPUT: true; the input reads as it did. -/
def commandBytesSpec : ChangeSpec := { name := "commandBytes", fn := fun _ => fun
  | [d1, d2] => { results := [.lit (.bool true)], args := [d1, d2] }
  | _ => none }
def commandBytesRow : OpenClaim := { program := "ytbahooohkigcnaadoor", sum := "a227e2baf15e2932e99a9dba8cf35e2c721b9136aa1748559b27ada326c8f112", func := "parish/parishlaw09.CommandBytes", spec := "commandBytes", inPlace := ["internal/bytealg.IndexByteString", "internal/bytealg.IndexString", "math.Float64frombits"], unfollowed := true, recurses := true, named := ["unicode/utf8.first", "unicode/utf8.acceptRanges", "internal/bytealg.MaxLen"], apart := false, laid := [("unicode/utf8.acceptRanges", laid_unicode_utf8_acceptRanges), ("unicode/utf8.first", laid_unicode_utf8_first)] }
def CommandBytesSaid : Prop := commandBytesRow.holds Tryd.pinned (OpenSpec.ofChange commandBytesSpec)

/-- ITS FALSE NEIGHBOUR: 'it returns false'. Refute it at one input. -/
def commandBytesWrong : ChangeSpec := { name := "commandBytes", fn := fun _ => fun
  | [d1, d2] => { results := [.lit (.bool false)], args := [d1, d2] }
  | _ => none }
def CommandBytesWrongFalsely : Prop := commandBytesRow.holds Tryd.pinned (OpenSpec.ofChange commandBytesWrong)

/-- 'parishlaw19.LeadAgree': WHATEVER THE INPUT: true; the input reads as it did. -/
def leadAgreeSpec : ChangeSpec := { name := "leadAgree", fn := fun _ => fun
  | [d1, d2] => { results := [.lit (.bool true)], args := [d1, d2] }
  | _ => none }
def leadAgreeRow : OpenClaim := { program := "ytbahooohkigcnaadoor", sum := "a227e2baf15e2932e99a9dba8cf35e2c721b9136aa1748559b27ada326c8f112", func := "parish/parishlaw19.LeadAgree", spec := "leadAgree", inPlace := ["internal/bytealg.IndexByteString", "internal/bytealg.IndexString", "math.Float64frombits"], unfollowed := true, recurses := true, named := ["unicode/utf8.first", "unicode/utf8.acceptRanges", "internal/bytealg.MaxLen"], apart := false, laid := [("unicode/utf8.acceptRanges", laid_unicode_utf8_acceptRanges), ("unicode/utf8.first", laid_unicode_utf8_first)] }
def LeadAgreeSaid : Prop := leadAgreeRow.holds Tryd.pinned (OpenSpec.ofChange leadAgreeSpec)

/-- ITS FALSE NEIGHBOUR: 'it returns false'. Refute it at one input. -/
def leadAgreeWrong : ChangeSpec := { name := "leadAgree", fn := fun _ => fun
  | [d1, d2] => { results := [.lit (.bool false)], args := [d1, d2] }
  | _ => none }
def LeadAgreeWrongFalsely : Prop := leadAgreeRow.holds Tryd.pinned (OpenSpec.ofChange leadAgreeWrong)

/- THE SECOND FORM. 'bulk': how many values and letters a reading holds, each counted each time it is reached (what is shared counts as often as it is met; a slice's spare places count too). A statement '..UptoSaid' is the law's where the arguments, and the package variables that the reading takes, are together of bulk at most 1048576: NARROWER than '..Said'. Prove '..Said' where nothing that the law and all that it calls make is longer than what came in: it says more and counts as full. Else prove '..UptoSaid'. A law counts once. -/
mutual
def uptoBulk {H : Type} : DataW H → Nat
  | .lit (.string bytes) => bytes.length + 1
  | .lit _ => 1
  | .nil => 1
  | .ptr d => uptoBulk d + 1
  | .slice elems spare => uptoBulkAll elems + uptoBulkAll spare + 1
  | .agg parts => uptoBulkAll parts + 1
  | .iface _ d => uptoBulk d + 1
  | .map entries => uptoBulkEntries entries + 1
  | .held _ => 1
def uptoBulkAll {H : Type} : List (DataW H) → Nat
  | [] => 0
  | d :: r => uptoBulk d + uptoBulkAll r
def uptoBulkEntries {H : Type} : List (Lit × DataW H) → Nat
  | [] => 0
  | x :: r => uptoBulkEntry x + uptoBulkEntries r
def uptoBulkEntry {H : Type} : Lit × DataW H → Nat
  | (.string bytes, d) => bytes.length + uptoBulk d + 1
  | (_, d) => uptoBulk d + 1
 end
def uptoSmall : (H : Type) → List (DataW H) → Bool := fun _ ds => decide (uptoBulkAll ds ≤ 1048576)
def OpenSpec.upto (s : _root_.Go.ChangeSpec) : _root_.Go.OpenSpec := { _root_.Go.OpenSpec.ofChange s with cond := some uptoSmall }

/-- 'parishlaw18.AcceptPicks', WHERE WHAT IT READS IS OF BULK AT MOST 1048576: true; the input reads as it did. -/
def acceptPicksUptoRow : OpenClaim := { program := "ytbahooohkigcnaadoor", sum := "a227e2baf15e2932e99a9dba8cf35e2c721b9136aa1748559b27ada326c8f112", func := "parish/parishlaw18.AcceptPicks", spec := "acceptPicks", inPlace := ["internal/bytealg.IndexByteString", "internal/bytealg.IndexString", "math.Float64frombits"], unfollowed := true, recurses := true, named := ["unicode/utf8.first", "unicode/utf8.acceptRanges", "internal/bytealg.MaxLen"], apart := false, laid := [("unicode/utf8.acceptRanges", laid_unicode_utf8_acceptRanges), ("unicode/utf8.first", laid_unicode_utf8_first)], narrowed := true }
def AcceptPicksUptoSaid : Prop := acceptPicksUptoRow.holds Tryd.pinned (OpenSpec.upto acceptPicksSpec)

/-- 'parishlaw18.AcceptPlays', WHERE WHAT IT READS IS OF BULK AT MOST 1048576: true; the input reads as it did. -/
def acceptPlaysUptoRow : OpenClaim := { program := "ytbahooohkigcnaadoor", sum := "a227e2baf15e2932e99a9dba8cf35e2c721b9136aa1748559b27ada326c8f112", func := "parish/parishlaw18.AcceptPlays", spec := "acceptPlays", inPlace := ["internal/bytealg.IndexByteString", "internal/bytealg.IndexString", "math.Float64frombits"], unfollowed := true, recurses := true, named := ["unicode/utf8.first", "unicode/utf8.acceptRanges", "internal/bytealg.MaxLen"], apart := false, laid := [("unicode/utf8.acceptRanges", laid_unicode_utf8_acceptRanges), ("unicode/utf8.first", laid_unicode_utf8_first)], narrowed := true }
def AcceptPlaysUptoSaid : Prop := acceptPlaysUptoRow.holds Tryd.pinned (OpenSpec.upto acceptPlaysSpec)

/-- 'parishlaw18.AcceptOne', WHERE WHAT IT READS IS OF BULK AT MOST 1048576: true; the input reads as it did. -/
def acceptOneUptoRow : OpenClaim := { program := "ytbahooohkigcnaadoor", sum := "a227e2baf15e2932e99a9dba8cf35e2c721b9136aa1748559b27ada326c8f112", func := "parish/parishlaw18.AcceptOne", spec := "acceptOne", inPlace := ["internal/bytealg.IndexByteString", "internal/bytealg.IndexString", "math.Float64frombits"], unfollowed := true, recurses := true, named := ["unicode/utf8.first", "unicode/utf8.acceptRanges", "internal/bytealg.MaxLen"], apart := false, laid := [("unicode/utf8.acceptRanges", laid_unicode_utf8_acceptRanges), ("unicode/utf8.first", laid_unicode_utf8_first)], narrowed := true }
def AcceptOneUptoSaid : Prop := acceptOneUptoRow.holds Tryd.pinned (OpenSpec.upto acceptOneSpec)

/-- 'parishlaw09.CommandForms', WHERE WHAT IT READS IS OF BULK AT MOST 1048576: true; the input reads as it did. -/
def commandFormsUptoRow : OpenClaim := { program := "ytbahooohkigcnaadoor", sum := "a227e2baf15e2932e99a9dba8cf35e2c721b9136aa1748559b27ada326c8f112", func := "parish/parishlaw09.CommandForms", spec := "commandForms", inPlace := ["internal/bytealg.IndexByteString", "internal/bytealg.IndexString", "math.Float64frombits"], unfollowed := true, recurses := true, named := ["unicode/utf8.first", "unicode/utf8.acceptRanges", "internal/bytealg.MaxLen"], apart := false, laid := [("unicode/utf8.acceptRanges", laid_unicode_utf8_acceptRanges), ("unicode/utf8.first", laid_unicode_utf8_first)], narrowed := true }
def CommandFormsUptoSaid : Prop := commandFormsUptoRow.holds Tryd.pinned (OpenSpec.upto commandFormsSpec)

/-- 'parishlaw19.LeadOnce', WHERE WHAT IT READS IS OF BULK AT MOST 1048576: true; the input reads as it did. -/
def leadOnceUptoRow : OpenClaim := { program := "ytbahooohkigcnaadoor", sum := "a227e2baf15e2932e99a9dba8cf35e2c721b9136aa1748559b27ada326c8f112", func := "parish/parishlaw19.LeadOnce", spec := "leadOnce", inPlace := ["internal/bytealg.IndexByteString", "internal/bytealg.IndexString", "math.Float64frombits"], unfollowed := true, recurses := true, named := ["unicode/utf8.first", "unicode/utf8.acceptRanges", "internal/bytealg.MaxLen"], apart := false, laid := [("unicode/utf8.acceptRanges", laid_unicode_utf8_acceptRanges), ("unicode/utf8.first", laid_unicode_utf8_first)], narrowed := true }
def LeadOnceUptoSaid : Prop := leadOnceUptoRow.holds Tryd.pinned (OpenSpec.upto leadOnceSpec)

/-- 'parishlaw19.LeadStays', WHERE WHAT IT READS IS OF BULK AT MOST 1048576: true; the input reads as it did. -/
def leadStaysUptoRow : OpenClaim := { program := "ytbahooohkigcnaadoor", sum := "a227e2baf15e2932e99a9dba8cf35e2c721b9136aa1748559b27ada326c8f112", func := "parish/parishlaw19.LeadStays", spec := "leadStays", inPlace := ["internal/bytealg.IndexByteString", "internal/bytealg.IndexString", "math.Float64frombits"], unfollowed := true, recurses := true, named := ["unicode/utf8.first", "unicode/utf8.acceptRanges", "internal/bytealg.MaxLen"], apart := false, laid := [("unicode/utf8.acceptRanges", laid_unicode_utf8_acceptRanges), ("unicode/utf8.first", laid_unicode_utf8_first)], narrowed := true }
def LeadStaysUptoSaid : Prop := leadStaysUptoRow.holds Tryd.pinned (OpenSpec.upto leadStaysSpec)

/-- 'parishlaw19.LeadNil', WHERE WHAT IT READS IS OF BULK AT MOST 1048576: true; the input reads as it did. -/
def leadNilUptoRow : OpenClaim := { program := "ytbahooohkigcnaadoor", sum := "a227e2baf15e2932e99a9dba8cf35e2c721b9136aa1748559b27ada326c8f112", func := "parish/parishlaw19.LeadNil", spec := "leadNil", inPlace := ["internal/bytealg.IndexByteString", "internal/bytealg.IndexString", "math.Float64frombits"], unfollowed := true, recurses := true, named := ["unicode/utf8.first", "unicode/utf8.acceptRanges", "internal/bytealg.MaxLen"], apart := false, laid := [("unicode/utf8.acceptRanges", laid_unicode_utf8_acceptRanges), ("unicode/utf8.first", laid_unicode_utf8_first)], narrowed := true }
def LeadNilUptoSaid : Prop := leadNilUptoRow.holds Tryd.pinned (OpenSpec.upto leadNilSpec)

/-- 'parishlaw09.CommandBytes', WHERE WHAT IT READS IS OF BULK AT MOST 1048576: true; the input reads as it did. -/
def commandBytesUptoRow : OpenClaim := { program := "ytbahooohkigcnaadoor", sum := "a227e2baf15e2932e99a9dba8cf35e2c721b9136aa1748559b27ada326c8f112", func := "parish/parishlaw09.CommandBytes", spec := "commandBytes", inPlace := ["internal/bytealg.IndexByteString", "internal/bytealg.IndexString", "math.Float64frombits"], unfollowed := true, recurses := true, named := ["unicode/utf8.first", "unicode/utf8.acceptRanges", "internal/bytealg.MaxLen"], apart := false, laid := [("unicode/utf8.acceptRanges", laid_unicode_utf8_acceptRanges), ("unicode/utf8.first", laid_unicode_utf8_first)], narrowed := true }
def CommandBytesUptoSaid : Prop := commandBytesUptoRow.holds Tryd.pinned (OpenSpec.upto commandBytesSpec)

/-- 'parishlaw19.LeadAgree', WHERE WHAT IT READS IS OF BULK AT MOST 1048576: true; the input reads as it did. -/
def leadAgreeUptoRow : OpenClaim := { program := "ytbahooohkigcnaadoor", sum := "a227e2baf15e2932e99a9dba8cf35e2c721b9136aa1748559b27ada326c8f112", func := "parish/parishlaw19.LeadAgree", spec := "leadAgree", inPlace := ["internal/bytealg.IndexByteString", "internal/bytealg.IndexString", "math.Float64frombits"], unfollowed := true, recurses := true, named := ["unicode/utf8.first", "unicode/utf8.acceptRanges", "internal/bytealg.MaxLen"], apart := false, laid := [("unicode/utf8.acceptRanges", laid_unicode_utf8_acceptRanges), ("unicode/utf8.first", laid_unicode_utf8_first)], narrowed := true }
def LeadAgreeUptoSaid : Prop := leadAgreeUptoRow.holds Tryd.pinned (OpenSpec.upto leadAgreeSpec)

end Rows
end Go.Proofs.YtbahooohkigcnaaDoor
