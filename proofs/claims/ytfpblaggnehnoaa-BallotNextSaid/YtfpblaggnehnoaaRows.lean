/-
  No cell of these rows narrows 'for every input' (looked for: loops, veiled, ifaces, maps, wideKeys, modest, calm, conditions, laid).
  DERIVED. THE GIVEN ROWS OF THIS SEAT. 15 by the template 'for every input the law returns true; each argument reads behind the call as it read before'; 0 by the template 'total and deterministic' (their statements: YtfpblaggnehnoaaTotals.lean).
  GIVEN WITH THE SEED: the statements are not yours to turn. If you find one false, say at which input.
  Laid BY PROGRAM, IN A SANDBOX (cutbox-rows.mjs): the forced cells as the released guide's own fill.sh prints them over the translation f99a051c2994c37a… (all of the seat's roots in one cut). By AI agents, Wed Nov 11 2026. No macro, syntax, notation, axiom, sorry.
-/
import Derived.Test.YtfpblaggnehnoaaChecked
import GoSem.Claim
import GoSem.ClaimJoined
import GoSem.ClaimMapViews
import Derived.JoinedTies
import Derived.KernelRfl
namespace Go.Proofs.Ytfpblaggnehnoaa
/- THE CELL 'sum', in the pinned program and in every row, IS THE sha256 OF THE DUMP (.gsa) THAT YtfpblaggnehnoaaProg.lean LOADS. Nothing in Lean hashes anything: it is a label: what it is worth is what the hold of that sum in a sandbox is worth. -/
noncomputable def Try.pinned : Pinned := { name := "ytfpblaggnehnoaa", sum := "f99a051c2994c37a9e4a769ebf1d08eed555cd6f875c614ede3b375ef678e178", checked := Try.checked }
namespace Rows
def none {H : Type} : Left H := { results := [], args := [] }

/-- 'parishlaw06.BallotMost': WHATEVER THE INPUT: true; the input reads as it did. -/
def ballotMostSpec : ChangeSpec := { name := "ballotMost", fn := fun _ => fun
  | [d] => { results := [.lit (.bool true)], args := [d] }
  | _ => none }
def ballotMostRow : OpenClaim := { program := "ytfpblaggnehnoaa", sum := "f99a051c2994c37a9e4a769ebf1d08eed555cd6f875c614ede3b375ef678e178", func := "parish/parishlaw06.BallotMost", spec := "ballotMost", apart := false }
def BallotMostSaid : Prop := ballotMostRow.holds Try.pinned (OpenSpec.ofChange ballotMostSpec)

/-- ITS FALSE NEIGHBOUR: 'it returns false'. Refute it at one input. -/
def ballotMostWrong : ChangeSpec := { name := "ballotMost", fn := fun _ => fun
  | [d] => { results := [.lit (.bool false)], args := [d] }
  | _ => none }
def BallotMostWrongFalsely : Prop := ballotMostRow.holds Try.pinned (OpenSpec.ofChange ballotMostWrong)

/-- 'parishlaw06.BallotOrder': WHATEVER THE INPUT: true; the input reads as it did. -/
def ballotOrderSpec : ChangeSpec := { name := "ballotOrder", fn := fun _ => fun
  | [d1, d2, d3] => { results := [.lit (.bool true)], args := [d1, d2, d3] }
  | _ => none }
def ballotOrderRow : OpenClaim := { program := "ytfpblaggnehnoaa", sum := "f99a051c2994c37a9e4a769ebf1d08eed555cd6f875c614ede3b375ef678e178", func := "parish/parishlaw06.BallotOrder", spec := "ballotOrder", apart := false }
def BallotOrderSaid : Prop := ballotOrderRow.holds Try.pinned (OpenSpec.ofChange ballotOrderSpec)

/-- ITS FALSE NEIGHBOUR: 'it returns false'. Refute it at one input. -/
def ballotOrderWrong : ChangeSpec := { name := "ballotOrder", fn := fun _ => fun
  | [d1, d2, d3] => { results := [.lit (.bool false)], args := [d1, d2, d3] }
  | _ => none }
def BallotOrderWrongFalsely : Prop := ballotOrderRow.holds Try.pinned (OpenSpec.ofChange ballotOrderWrong)

/-- 'parishlaw06.BallotTells': WHATEVER THE INPUT: true; the input reads as it did. -/
def ballotTellsSpec : ChangeSpec := { name := "ballotTells", fn := fun _ => fun
  | [d1, d2, d3] => { results := [.lit (.bool true)], args := [d1, d2, d3] }
  | _ => none }
def ballotTellsRow : OpenClaim := { program := "ytfpblaggnehnoaa", sum := "f99a051c2994c37a9e4a769ebf1d08eed555cd6f875c614ede3b375ef678e178", func := "parish/parishlaw06.BallotTells", spec := "ballotTells", apart := false }
def BallotTellsSaid : Prop := ballotTellsRow.holds Try.pinned (OpenSpec.ofChange ballotTellsSpec)

/-- ITS FALSE NEIGHBOUR: 'it returns false'. Refute it at one input. -/
def ballotTellsWrong : ChangeSpec := { name := "ballotTells", fn := fun _ => fun
  | [d1, d2, d3] => { results := [.lit (.bool false)], args := [d1, d2, d3] }
  | _ => none }
def BallotTellsWrongFalsely : Prop := ballotTellsRow.holds Try.pinned (OpenSpec.ofChange ballotTellsWrong)

/-- 'parishlaw02.CodeOrder': WHATEVER THE INPUT: true; the input reads as it did. -/
def codeOrderSpec : ChangeSpec := { name := "codeOrder", fn := fun _ => fun
  | [d1, d2, d3] => { results := [.lit (.bool true)], args := [d1, d2, d3] }
  | _ => none }
def codeOrderRow : OpenClaim := { program := "ytfpblaggnehnoaa", sum := "f99a051c2994c37a9e4a769ebf1d08eed555cd6f875c614ede3b375ef678e178", func := "parish/parishlaw02.CodeOrder", spec := "codeOrder", apart := false }
def CodeOrderSaid : Prop := codeOrderRow.holds Try.pinned (OpenSpec.ofChange codeOrderSpec)

/-- ITS FALSE NEIGHBOUR: 'it returns false'. Refute it at one input. -/
def codeOrderWrong : ChangeSpec := { name := "codeOrder", fn := fun _ => fun
  | [d1, d2, d3] => { results := [.lit (.bool false)], args := [d1, d2, d3] }
  | _ => none }
def CodeOrderWrongFalsely : Prop := codeOrderRow.holds Try.pinned (OpenSpec.ofChange codeOrderWrong)

/-- 'parishlaw02.CodePuts': WHATEVER THE INPUT: true; the input reads as it did. -/
def codePutsSpec : ChangeSpec := { name := "codePuts", fn := fun _ => fun
  | [d1, d2, d3] => { results := [.lit (.bool true)], args := [d1, d2, d3] }
  | _ => none }
def codePutsRow : OpenClaim := { program := "ytfpblaggnehnoaa", sum := "f99a051c2994c37a9e4a769ebf1d08eed555cd6f875c614ede3b375ef678e178", func := "parish/parishlaw02.CodePuts", spec := "codePuts", apart := false }
def CodePutsSaid : Prop := codePutsRow.holds Try.pinned (OpenSpec.ofChange codePutsSpec)

/-- ITS FALSE NEIGHBOUR: 'it returns false'. Refute it at one input. -/
def codePutsWrong : ChangeSpec := { name := "codePuts", fn := fun _ => fun
  | [d1, d2, d3] => { results := [.lit (.bool false)], args := [d1, d2, d3] }
  | _ => none }
def CodePutsWrongFalsely : Prop := codePutsRow.holds Try.pinned (OpenSpec.ofChange codePutsWrong)

/-- 'parishlaw05.QuorumHalves': WHATEVER THE INPUT: true; the input reads as it did. -/
def quorumHalvesSpec : ChangeSpec := { name := "quorumHalves", fn := fun _ => fun
  | [d1, d2] => { results := [.lit (.bool true)], args := [d1, d2] }
  | _ => none }
def quorumHalvesRow : OpenClaim := { program := "ytfpblaggnehnoaa", sum := "f99a051c2994c37a9e4a769ebf1d08eed555cd6f875c614ede3b375ef678e178", func := "parish/parishlaw05.QuorumHalves", spec := "quorumHalves", apart := false }
def QuorumHalvesSaid : Prop := quorumHalvesRow.holds Try.pinned (OpenSpec.ofChange quorumHalvesSpec)

/-- ITS FALSE NEIGHBOUR: 'it returns false'. Refute it at one input. -/
def quorumHalvesWrong : ChangeSpec := { name := "quorumHalves", fn := fun _ => fun
  | [d1, d2] => { results := [.lit (.bool false)], args := [d1, d2] }
  | _ => none }
def QuorumHalvesWrongFalsely : Prop := quorumHalvesRow.holds Try.pinned (OpenSpec.ofChange quorumHalvesWrong)

/-- 'parishlaw05.QuorumAdds': WHATEVER THE INPUT: true; the input reads as it did. -/
def quorumAddsSpec : ChangeSpec := { name := "quorumAdds", fn := fun _ => fun
  | [d1, d2, d3] => { results := [.lit (.bool true)], args := [d1, d2, d3] }
  | _ => none }
def quorumAddsRow : OpenClaim := { program := "ytfpblaggnehnoaa", sum := "f99a051c2994c37a9e4a769ebf1d08eed555cd6f875c614ede3b375ef678e178", func := "parish/parishlaw05.QuorumAdds", spec := "quorumAdds", apart := false }
def QuorumAddsSaid : Prop := quorumAddsRow.holds Try.pinned (OpenSpec.ofChange quorumAddsSpec)

/-- ITS FALSE NEIGHBOUR: 'it returns false'. Refute it at one input. -/
def quorumAddsWrong : ChangeSpec := { name := "quorumAdds", fn := fun _ => fun
  | [d1, d2, d3] => { results := [.lit (.bool false)], args := [d1, d2, d3] }
  | _ => none }
def QuorumAddsWrongFalsely : Prop := quorumAddsRow.holds Try.pinned (OpenSpec.ofChange quorumAddsWrong)

/-- 'parishlaw05.QuorumGrows': WHATEVER THE INPUT: true; the input reads as it did. -/
def quorumGrowsSpec : ChangeSpec := { name := "quorumGrows", fn := fun _ => fun
  | [d1, d2, d3] => { results := [.lit (.bool true)], args := [d1, d2, d3] }
  | _ => none }
def quorumGrowsRow : OpenClaim := { program := "ytfpblaggnehnoaa", sum := "f99a051c2994c37a9e4a769ebf1d08eed555cd6f875c614ede3b375ef678e178", func := "parish/parishlaw05.QuorumGrows", spec := "quorumGrows", apart := false }
def QuorumGrowsSaid : Prop := quorumGrowsRow.holds Try.pinned (OpenSpec.ofChange quorumGrowsSpec)

/-- ITS FALSE NEIGHBOUR: 'it returns false'. Refute it at one input. -/
def quorumGrowsWrong : ChangeSpec := { name := "quorumGrows", fn := fun _ => fun
  | [d1, d2, d3] => { results := [.lit (.bool false)], args := [d1, d2, d3] }
  | _ => none }
def QuorumGrowsWrongFalsely : Prop := quorumGrowsRow.holds Try.pinned (OpenSpec.ofChange quorumGrowsWrong)

/-- 'parishlaw05.QuorumTells': WHATEVER THE INPUT: true; the input reads as it did. -/
def quorumTellsSpec : ChangeSpec := { name := "quorumTells", fn := fun _ => fun
  | [d1, d2] => { results := [.lit (.bool true)], args := [d1, d2] }
  | _ => none }
def quorumTellsRow : OpenClaim := { program := "ytfpblaggnehnoaa", sum := "f99a051c2994c37a9e4a769ebf1d08eed555cd6f875c614ede3b375ef678e178", func := "parish/parishlaw05.QuorumTells", spec := "quorumTells", apart := false }
def QuorumTellsSaid : Prop := quorumTellsRow.holds Try.pinned (OpenSpec.ofChange quorumTellsSpec)

/-- ITS FALSE NEIGHBOUR: 'it returns false'. Refute it at one input. -/
def quorumTellsWrong : ChangeSpec := { name := "quorumTells", fn := fun _ => fun
  | [d1, d2] => { results := [.lit (.bool false)], args := [d1, d2] }
  | _ => none }
def QuorumTellsWrongFalsely : Prop := quorumTellsRow.holds Try.pinned (OpenSpec.ofChange quorumTellsWrong)

/-- 'parishlaw05.QuorumMeets': WHATEVER THE INPUT: true; the input reads as it did. -/
def quorumMeetsSpec : ChangeSpec := { name := "quorumMeets", fn := fun _ => fun
  | [d1, d2, d3] => { results := [.lit (.bool true)], args := [d1, d2, d3] }
  | _ => none }
def quorumMeetsRow : OpenClaim := { program := "ytfpblaggnehnoaa", sum := "f99a051c2994c37a9e4a769ebf1d08eed555cd6f875c614ede3b375ef678e178", func := "parish/parishlaw05.QuorumMeets", spec := "quorumMeets", apart := false }
def QuorumMeetsSaid : Prop := quorumMeetsRow.holds Try.pinned (OpenSpec.ofChange quorumMeetsSpec)

/-- ITS FALSE NEIGHBOUR: 'it returns false'. Refute it at one input. -/
def quorumMeetsWrong : ChangeSpec := { name := "quorumMeets", fn := fun _ => fun
  | [d1, d2, d3] => { results := [.lit (.bool false)], args := [d1, d2, d3] }
  | _ => none }
def QuorumMeetsWrongFalsely : Prop := quorumMeetsRow.holds Try.pinned (OpenSpec.ofChange quorumMeetsWrong)

/-- 'parishlaw02.CodeBack': WHATEVER THE INPUT: true; the input reads as it did. -/
def codeBackSpec : ChangeSpec := { name := "codeBack", fn := fun _ => fun
  | [d] => { results := [.lit (.bool true)], args := [d] }
  | _ => none }
def codeBackRow : OpenClaim := { program := "ytfpblaggnehnoaa", sum := "f99a051c2994c37a9e4a769ebf1d08eed555cd6f875c614ede3b375ef678e178", func := "parish/parishlaw02.CodeBack", spec := "codeBack", apart := false }
def CodeBackSaid : Prop := codeBackRow.holds Try.pinned (OpenSpec.ofChange codeBackSpec)

/-- ITS FALSE NEIGHBOUR: 'it returns false'. Refute it at one input. -/
def codeBackWrong : ChangeSpec := { name := "codeBack", fn := fun _ => fun
  | [d] => { results := [.lit (.bool false)], args := [d] }
  | _ => none }
def CodeBackWrongFalsely : Prop := codeBackRow.holds Try.pinned (OpenSpec.ofChange codeBackWrong)

/-- 'parishlaw02.CodeTakes': WHATEVER THE INPUT: true; the input reads as it did. -/
def codeTakesSpec : ChangeSpec := { name := "codeTakes", fn := fun _ => fun
  | [d1, d2] => { results := [.lit (.bool true)], args := [d1, d2] }
  | _ => none }
def codeTakesRow : OpenClaim := { program := "ytfpblaggnehnoaa", sum := "f99a051c2994c37a9e4a769ebf1d08eed555cd6f875c614ede3b375ef678e178", func := "parish/parishlaw02.CodeTakes", spec := "codeTakes", apart := false }
def CodeTakesSaid : Prop := codeTakesRow.holds Try.pinned (OpenSpec.ofChange codeTakesSpec)

/-- ITS FALSE NEIGHBOUR: 'it returns false'. Refute it at one input. -/
def codeTakesWrong : ChangeSpec := { name := "codeTakes", fn := fun _ => fun
  | [d1, d2] => { results := [.lit (.bool false)], args := [d1, d2] }
  | _ => none }
def CodeTakesWrongFalsely : Prop := codeTakesRow.holds Try.pinned (OpenSpec.ofChange codeTakesWrong)

/-- 'parishlaw02.CodeFails': WHATEVER THE INPUT: true; the input reads as it did. -/
def codeFailsSpec : ChangeSpec := { name := "codeFails", fn := fun _ => fun
  | [d1, d2] => { results := [.lit (.bool true)], args := [d1, d2] }
  | _ => none }
def codeFailsRow : OpenClaim := { program := "ytfpblaggnehnoaa", sum := "f99a051c2994c37a9e4a769ebf1d08eed555cd6f875c614ede3b375ef678e178", func := "parish/parishlaw02.CodeFails", spec := "codeFails", apart := false }
def CodeFailsSaid : Prop := codeFailsRow.holds Try.pinned (OpenSpec.ofChange codeFailsSpec)

/-- ITS FALSE NEIGHBOUR: 'it returns false'. Refute it at one input. -/
def codeFailsWrong : ChangeSpec := { name := "codeFails", fn := fun _ => fun
  | [d1, d2] => { results := [.lit (.bool false)], args := [d1, d2] }
  | _ => none }
def CodeFailsWrongFalsely : Prop := codeFailsRow.holds Try.pinned (OpenSpec.ofChange codeFailsWrong)

/-- 'parishlaw06.BallotBytes': WHATEVER THE INPUT: true; the input reads as it did. -/
def ballotBytesSpec : ChangeSpec := { name := "ballotBytes", fn := fun _ => fun
  | [d1, d2] => { results := [.lit (.bool true)], args := [d1, d2] }
  | _ => none }
def ballotBytesRow : OpenClaim := { program := "ytfpblaggnehnoaa", sum := "f99a051c2994c37a9e4a769ebf1d08eed555cd6f875c614ede3b375ef678e178", func := "parish/parishlaw06.BallotBytes", spec := "ballotBytes", apart := false }
def BallotBytesSaid : Prop := ballotBytesRow.holds Try.pinned (OpenSpec.ofChange ballotBytesSpec)

/-- ITS FALSE NEIGHBOUR: 'it returns false'. Refute it at one input. -/
def ballotBytesWrong : ChangeSpec := { name := "ballotBytes", fn := fun _ => fun
  | [d1, d2] => { results := [.lit (.bool false)], args := [d1, d2] }
  | _ => none }
def BallotBytesWrongFalsely : Prop := ballotBytesRow.holds Try.pinned (OpenSpec.ofChange ballotBytesWrong)

/-- 'parishlaw06.BallotNext': WHATEVER THE INPUT: true; the input reads as it did. -/
def ballotNextSpec : ChangeSpec := { name := "ballotNext", fn := fun _ => fun
  | [d1, d2, d3] => { results := [.lit (.bool true)], args := [d1, d2, d3] }
  | _ => none }
def ballotNextRow : OpenClaim := { program := "ytfpblaggnehnoaa", sum := "f99a051c2994c37a9e4a769ebf1d08eed555cd6f875c614ede3b375ef678e178", func := "parish/parishlaw06.BallotNext", spec := "ballotNext", apart := false }
def BallotNextSaid : Prop := ballotNextRow.holds Try.pinned (OpenSpec.ofChange ballotNextSpec)

/-- ITS FALSE NEIGHBOUR: 'it returns false'. Refute it at one input. -/
def ballotNextWrong : ChangeSpec := { name := "ballotNext", fn := fun _ => fun
  | [d1, d2, d3] => { results := [.lit (.bool false)], args := [d1, d2, d3] }
  | _ => none }
def BallotNextWrongFalsely : Prop := ballotNextRow.holds Try.pinned (OpenSpec.ofChange ballotNextWrong)

/- THE SECOND FORM. 'bulk': how many values and letters a reading holds, each counted each time it is reached (what is shared counts as often as it is met; a slice's spare places count too). A statement '..UptoSaid' is the law's where the arguments, and the package variables that the reading takes, are together of bulk at most 1048576: NARROWER than '..Said'. Prove '..Said' where nothing that the law and all that it calls make is longer than what came in: it says more and counts as full. Else prove '..UptoSaid'. A law counts once. -/
mutual
def uptoBulk {H : Type} : DataW H → Nat
  | .lit (.string bytes) => bytes.length + 1
  | .lit _ => 1
  | .nil => 1
  | .ptr d => uptoBulk d + 1
  | .slice elems spare => uptoBulkAll elems + uptoBulkAll spare + 1
  | .agg parts => uptoBulkAll parts + 1
  | .iface _ d => uptoBulk d + 1
  | .map entries => uptoBulkEntries entries + 1
  | .held _ => 1
def uptoBulkAll {H : Type} : List (DataW H) → Nat
  | [] => 0
  | d :: r => uptoBulk d + uptoBulkAll r
def uptoBulkEntries {H : Type} : List (Lit × DataW H) → Nat
  | [] => 0
  | x :: r => uptoBulkEntry x + uptoBulkEntries r
def uptoBulkEntry {H : Type} : Lit × DataW H → Nat
  | (.string bytes, d) => bytes.length + uptoBulk d + 1
  | (_, d) => uptoBulk d + 1
 end
def uptoSmall : (H : Type) → List (DataW H) → Bool := fun _ ds => decide (uptoBulkAll ds ≤ 1048576)
def OpenSpec.upto (s : _root_.Go.ChangeSpec) : _root_.Go.OpenSpec := { _root_.Go.OpenSpec.ofChange s with cond := some uptoSmall }

/-- 'parishlaw06.BallotMost', WHERE WHAT IT READS IS OF BULK AT MOST 1048576: true; the input reads as it did. -/
def ballotMostUptoRow : OpenClaim := { program := "ytfpblaggnehnoaa", sum := "f99a051c2994c37a9e4a769ebf1d08eed555cd6f875c614ede3b375ef678e178", func := "parish/parishlaw06.BallotMost", spec := "ballotMost", apart := false, narrowed := true }
def BallotMostUptoSaid : Prop := ballotMostUptoRow.holds Try.pinned (OpenSpec.upto ballotMostSpec)

/-- 'parishlaw06.BallotOrder', WHERE WHAT IT READS IS OF BULK AT MOST 1048576: true; the input reads as it did. -/
def ballotOrderUptoRow : OpenClaim := { program := "ytfpblaggnehnoaa", sum := "f99a051c2994c37a9e4a769ebf1d08eed555cd6f875c614ede3b375ef678e178", func := "parish/parishlaw06.BallotOrder", spec := "ballotOrder", apart := false, narrowed := true }
def BallotOrderUptoSaid : Prop := ballotOrderUptoRow.holds Try.pinned (OpenSpec.upto ballotOrderSpec)

/-- 'parishlaw06.BallotTells', WHERE WHAT IT READS IS OF BULK AT MOST 1048576: true; the input reads as it did. -/
def ballotTellsUptoRow : OpenClaim := { program := "ytfpblaggnehnoaa", sum := "f99a051c2994c37a9e4a769ebf1d08eed555cd6f875c614ede3b375ef678e178", func := "parish/parishlaw06.BallotTells", spec := "ballotTells", apart := false, narrowed := true }
def BallotTellsUptoSaid : Prop := ballotTellsUptoRow.holds Try.pinned (OpenSpec.upto ballotTellsSpec)

/-- 'parishlaw02.CodeOrder', WHERE WHAT IT READS IS OF BULK AT MOST 1048576: true; the input reads as it did. -/
def codeOrderUptoRow : OpenClaim := { program := "ytfpblaggnehnoaa", sum := "f99a051c2994c37a9e4a769ebf1d08eed555cd6f875c614ede3b375ef678e178", func := "parish/parishlaw02.CodeOrder", spec := "codeOrder", apart := false, narrowed := true }
def CodeOrderUptoSaid : Prop := codeOrderUptoRow.holds Try.pinned (OpenSpec.upto codeOrderSpec)

/-- 'parishlaw02.CodePuts', WHERE WHAT IT READS IS OF BULK AT MOST 1048576: true; the input reads as it did. -/
def codePutsUptoRow : OpenClaim := { program := "ytfpblaggnehnoaa", sum := "f99a051c2994c37a9e4a769ebf1d08eed555cd6f875c614ede3b375ef678e178", func := "parish/parishlaw02.CodePuts", spec := "codePuts", apart := false, narrowed := true }
def CodePutsUptoSaid : Prop := codePutsUptoRow.holds Try.pinned (OpenSpec.upto codePutsSpec)

/-- 'parishlaw05.QuorumHalves', WHERE WHAT IT READS IS OF BULK AT MOST 1048576: true; the input reads as it did. -/
def quorumHalvesUptoRow : OpenClaim := { program := "ytfpblaggnehnoaa", sum := "f99a051c2994c37a9e4a769ebf1d08eed555cd6f875c614ede3b375ef678e178", func := "parish/parishlaw05.QuorumHalves", spec := "quorumHalves", apart := false, narrowed := true }
def QuorumHalvesUptoSaid : Prop := quorumHalvesUptoRow.holds Try.pinned (OpenSpec.upto quorumHalvesSpec)

/-- 'parishlaw05.QuorumAdds', WHERE WHAT IT READS IS OF BULK AT MOST 1048576: true; the input reads as it did. -/
def quorumAddsUptoRow : OpenClaim := { program := "ytfpblaggnehnoaa", sum := "f99a051c2994c37a9e4a769ebf1d08eed555cd6f875c614ede3b375ef678e178", func := "parish/parishlaw05.QuorumAdds", spec := "quorumAdds", apart := false, narrowed := true }
def QuorumAddsUptoSaid : Prop := quorumAddsUptoRow.holds Try.pinned (OpenSpec.upto quorumAddsSpec)

/-- 'parishlaw05.QuorumGrows', WHERE WHAT IT READS IS OF BULK AT MOST 1048576: true; the input reads as it did. -/
def quorumGrowsUptoRow : OpenClaim := { program := "ytfpblaggnehnoaa", sum := "f99a051c2994c37a9e4a769ebf1d08eed555cd6f875c614ede3b375ef678e178", func := "parish/parishlaw05.QuorumGrows", spec := "quorumGrows", apart := false, narrowed := true }
def QuorumGrowsUptoSaid : Prop := quorumGrowsUptoRow.holds Try.pinned (OpenSpec.upto quorumGrowsSpec)

/-- 'parishlaw05.QuorumTells', WHERE WHAT IT READS IS OF BULK AT MOST 1048576: true; the input reads as it did. -/
def quorumTellsUptoRow : OpenClaim := { program := "ytfpblaggnehnoaa", sum := "f99a051c2994c37a9e4a769ebf1d08eed555cd6f875c614ede3b375ef678e178", func := "parish/parishlaw05.QuorumTells", spec := "quorumTells", apart := false, narrowed := true }
def QuorumTellsUptoSaid : Prop := quorumTellsUptoRow.holds Try.pinned (OpenSpec.upto quorumTellsSpec)

/-- 'parishlaw05.QuorumMeets', WHERE WHAT IT READS IS OF BULK AT MOST 1048576: true; the input reads as it did. -/
def quorumMeetsUptoRow : OpenClaim := { program := "ytfpblaggnehnoaa", sum := "f99a051c2994c37a9e4a769ebf1d08eed555cd6f875c614ede3b375ef678e178", func := "parish/parishlaw05.QuorumMeets", spec := "quorumMeets", apart := false, narrowed := true }
def QuorumMeetsUptoSaid : Prop := quorumMeetsUptoRow.holds Try.pinned (OpenSpec.upto quorumMeetsSpec)

/-- 'parishlaw02.CodeBack', WHERE WHAT IT READS IS OF BULK AT MOST 1048576: true; the input reads as it did. -/
def codeBackUptoRow : OpenClaim := { program := "ytfpblaggnehnoaa", sum := "f99a051c2994c37a9e4a769ebf1d08eed555cd6f875c614ede3b375ef678e178", func := "parish/parishlaw02.CodeBack", spec := "codeBack", apart := false, narrowed := true }
def CodeBackUptoSaid : Prop := codeBackUptoRow.holds Try.pinned (OpenSpec.upto codeBackSpec)

/-- 'parishlaw02.CodeTakes', WHERE WHAT IT READS IS OF BULK AT MOST 1048576: true; the input reads as it did. -/
def codeTakesUptoRow : OpenClaim := { program := "ytfpblaggnehnoaa", sum := "f99a051c2994c37a9e4a769ebf1d08eed555cd6f875c614ede3b375ef678e178", func := "parish/parishlaw02.CodeTakes", spec := "codeTakes", apart := false, narrowed := true }
def CodeTakesUptoSaid : Prop := codeTakesUptoRow.holds Try.pinned (OpenSpec.upto codeTakesSpec)

/-- 'parishlaw02.CodeFails', WHERE WHAT IT READS IS OF BULK AT MOST 1048576: true; the input reads as it did. -/
def codeFailsUptoRow : OpenClaim := { program := "ytfpblaggnehnoaa", sum := "f99a051c2994c37a9e4a769ebf1d08eed555cd6f875c614ede3b375ef678e178", func := "parish/parishlaw02.CodeFails", spec := "codeFails", apart := false, narrowed := true }
def CodeFailsUptoSaid : Prop := codeFailsUptoRow.holds Try.pinned (OpenSpec.upto codeFailsSpec)

/-- 'parishlaw06.BallotBytes', WHERE WHAT IT READS IS OF BULK AT MOST 1048576: true; the input reads as it did. -/
def ballotBytesUptoRow : OpenClaim := { program := "ytfpblaggnehnoaa", sum := "f99a051c2994c37a9e4a769ebf1d08eed555cd6f875c614ede3b375ef678e178", func := "parish/parishlaw06.BallotBytes", spec := "ballotBytes", apart := false, narrowed := true }
def BallotBytesUptoSaid : Prop := ballotBytesUptoRow.holds Try.pinned (OpenSpec.upto ballotBytesSpec)

/-- 'parishlaw06.BallotNext', WHERE WHAT IT READS IS OF BULK AT MOST 1048576: true; the input reads as it did. -/
def ballotNextUptoRow : OpenClaim := { program := "ytfpblaggnehnoaa", sum := "f99a051c2994c37a9e4a769ebf1d08eed555cd6f875c614ede3b375ef678e178", func := "parish/parishlaw06.BallotNext", spec := "ballotNext", apart := false, narrowed := true }
def BallotNextUptoSaid : Prop := ballotNextUptoRow.holds Try.pinned (OpenSpec.upto ballotNextSpec)

end Rows
end Go.Proofs.Ytfpblaggnehnoaa
