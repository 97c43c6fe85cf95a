/-
  NARROWER THAN 'FOR EVERY INPUT', by the rows' own cells (each row's printed sentence says how): TreeValid: laid · TreeEncodes: laid · TreeParses: laid · TreeReturns: laid · TreeOnly: laid · TreeTurned: laid · TreeKeeps: laid.
  DERIVED. THE GIVEN ROWS OF THIS SEAT. 7 by the template 'for every input the law returns true; each argument reads behind the call as it read before'; 0 by the template 'total and deterministic' (their statements: YtgeihjpifbkpkaaDoorTotals.lean).
  GIVEN WITH THE SEED: the statements are not yours to turn. If you find one false, say at which input.
  Laid BY PROGRAM, IN A SANDBOX (cutbox-rows.mjs): the forced cells as the released guide's own fill.sh prints them over the translation 40352b0dacdfe643… (all of the seat's roots in one cut). By AI agents, Wed Nov 11 2026. No macro, syntax, notation, axiom, sorry.
-/
import Derived.Test.YtgeihjpifbkpkaaDoorChecked
import GoSem.PinnedTables
import GoSem.Claim
import GoSem.ClaimJoined
import GoSem.ClaimMapViews
import Derived.JoinedTies
import Derived.KernelRfl
namespace Go.Proofs.YtgeihjpifbkpkaaDoor
/- THE CELL 'sum', in the pinned program and in every row, IS THE sha256 OF THE DUMP (.gsa) THAT YtgeihjpifbkpkaaDoorProg.lean LOADS. Nothing in Lean hashes anything: it is a label: what it is worth is what the hold of that sum in a sandbox is worth. -/
noncomputable def Tryd.pinned : Pinned := { name := "ytgeihjpifbkpkaadoor", sum := "40352b0dacdfe6438735313ed6dcca41abaf7a4654d23c8ec6923cf09653e7c0", checked := Tryd.checked }
namespace Rows
def none {H : Type} : Left H := { results := [], args := [] }

/- WHAT THE LISTED PACKAGE-LEVEL VARIABLES READ AS WHEN THE CALL BEGINS. Each datum BY PROGRAM (the guide's laid-datum.mjs) off the statement by which the dump's own 'gosem.cut.vars' lays the variable. In a bare row this is a premise. The card (YtgeihjpifbkpkaaDoorCards.lean) ties it to the program's text. -/
def laid_unicode_utf8_acceptRanges {H : Type} : DataW H := .agg [.agg [.lit (.int .u8 128), .lit (.int .u8 191)], .agg [.lit (.int .u8 160), .lit (.int .u8 191)], .agg [.lit (.int .u8 128), .lit (.int .u8 159)], .agg [.lit (.int .u8 144), .lit (.int .u8 191)], .agg [.lit (.int .u8 128), .lit (.int .u8 143)], .agg [.lit (.int .u8 0), .lit (.int .u8 0)], .agg [.lit (.int .u8 0), .lit (.int .u8 0)], .agg [.lit (.int .u8 0), .lit (.int .u8 0)], .agg [.lit (.int .u8 0), .lit (.int .u8 0)], .agg [.lit (.int .u8 0), .lit (.int .u8 0)], .agg [.lit (.int .u8 0), .lit (.int .u8 0)], .agg [.lit (.int .u8 0), .lit (.int .u8 0)], .agg [.lit (.int .u8 0), .lit (.int .u8 0)], .agg [.lit (.int .u8 0), .lit (.int .u8 0)], .agg [.lit (.int .u8 0), .lit (.int .u8 0)], .agg [.lit (.int .u8 0), .lit (.int .u8 0)]]
/-- One of Go's own tables, pinned by name: the form's constant. -/
def laid_unicode_utf8_first : DataW Unit := Go.Pinned.utf8First

/-- 'freightlaw7.TreeValid': WHATEVER THE INPUT: true; the input reads as it did. -/
def treeValidSpec : ChangeSpec := { name := "treeValid", fn := fun _ => fun
  | [d] => { results := [.lit (.bool true)], args := [d] }
  | _ => none }
def treeValidRow : OpenClaim := { program := "ytgeihjpifbkpkaadoor", sum := "40352b0dacdfe6438735313ed6dcca41abaf7a4654d23c8ec6923cf09653e7c0", func := "freight/freightlaw7.TreeValid", spec := "treeValid", unfollowed := true, recurses := true, named := ["unicode/utf8.first", "unicode/utf8.acceptRanges"], apart := false, laid := [("unicode/utf8.acceptRanges", laid_unicode_utf8_acceptRanges), ("unicode/utf8.first", laid_unicode_utf8_first)] }
def TreeValidSaid : Prop := treeValidRow.holds Tryd.pinned (OpenSpec.ofChange treeValidSpec)

/-- ITS FALSE NEIGHBOUR: 'it returns false'. Refute it at one input. -/
def treeValidWrong : ChangeSpec := { name := "treeValid", fn := fun _ => fun
  | [d] => { results := [.lit (.bool false)], args := [d] }
  | _ => none }
def TreeValidWrongFalsely : Prop := treeValidRow.holds Tryd.pinned (OpenSpec.ofChange treeValidWrong)

/-- 'freightlaw7.TreeEncodes': WHATEVER THE INPUT: true; the input reads as it did. -/
def treeEncodesSpec : ChangeSpec := { name := "treeEncodes", fn := fun _ => fun
  | [d] => { results := [.lit (.bool true)], args := [d] }
  | _ => none }
def treeEncodesRow : OpenClaim := { program := "ytgeihjpifbkpkaadoor", sum := "40352b0dacdfe6438735313ed6dcca41abaf7a4654d23c8ec6923cf09653e7c0", func := "freight/freightlaw7.TreeEncodes", spec := "treeEncodes", unfollowed := true, recurses := true, named := ["unicode/utf8.first", "unicode/utf8.acceptRanges"], apart := false, laid := [("unicode/utf8.acceptRanges", laid_unicode_utf8_acceptRanges), ("unicode/utf8.first", laid_unicode_utf8_first)] }
def TreeEncodesSaid : Prop := treeEncodesRow.holds Tryd.pinned (OpenSpec.ofChange treeEncodesSpec)

/-- ITS FALSE NEIGHBOUR: 'it returns false'. Refute it at one input. -/
def treeEncodesWrong : ChangeSpec := { name := "treeEncodes", fn := fun _ => fun
  | [d] => { results := [.lit (.bool false)], args := [d] }
  | _ => none }
def TreeEncodesWrongFalsely : Prop := treeEncodesRow.holds Tryd.pinned (OpenSpec.ofChange treeEncodesWrong)

/-- 'freightlaw7.TreeParses': WHATEVER THE INPUT: true; the input reads as it did. -/
def treeParsesSpec : ChangeSpec := { name := "treeParses", fn := fun _ => fun
  | [d] => { results := [.lit (.bool true)], args := [d] }
  | _ => none }
def treeParsesRow : OpenClaim := { program := "ytgeihjpifbkpkaadoor", sum := "40352b0dacdfe6438735313ed6dcca41abaf7a4654d23c8ec6923cf09653e7c0", func := "freight/freightlaw7.TreeParses", spec := "treeParses", unfollowed := true, recurses := true, named := ["unicode/utf8.first", "unicode/utf8.acceptRanges"], apart := false, laid := [("unicode/utf8.acceptRanges", laid_unicode_utf8_acceptRanges), ("unicode/utf8.first", laid_unicode_utf8_first)] }
def TreeParsesSaid : Prop := treeParsesRow.holds Tryd.pinned (OpenSpec.ofChange treeParsesSpec)

/-- ITS FALSE NEIGHBOUR: 'it returns false'. Refute it at one input. -/
def treeParsesWrong : ChangeSpec := { name := "treeParses", fn := fun _ => fun
  | [d] => { results := [.lit (.bool false)], args := [d] }
  | _ => none }
def TreeParsesWrongFalsely : Prop := treeParsesRow.holds Tryd.pinned (OpenSpec.ofChange treeParsesWrong)

/-- 'freightlaw7.TreeReturns': WHATEVER THE INPUT: true; the input reads as it did. -/
def treeReturnsSpec : ChangeSpec := { name := "treeReturns", fn := fun _ => fun
  | [d1, d2, d3] => { results := [.lit (.bool true)], args := [d1, d2, d3] }
  | _ => none }
def treeReturnsRow : OpenClaim := { program := "ytgeihjpifbkpkaadoor", sum := "40352b0dacdfe6438735313ed6dcca41abaf7a4654d23c8ec6923cf09653e7c0", func := "freight/freightlaw7.TreeReturns", spec := "treeReturns", unfollowed := true, recurses := true, named := ["unicode/utf8.first", "unicode/utf8.acceptRanges"], apart := false, laid := [("unicode/utf8.acceptRanges", laid_unicode_utf8_acceptRanges), ("unicode/utf8.first", laid_unicode_utf8_first)] }
def TreeReturnsSaid : Prop := treeReturnsRow.holds Tryd.pinned (OpenSpec.ofChange treeReturnsSpec)

/-- ITS FALSE NEIGHBOUR: 'it returns false'. Refute it at one input. -/
def treeReturnsWrong : ChangeSpec := { name := "treeReturns", fn := fun _ => fun
  | [d1, d2, d3] => { results := [.lit (.bool false)], args := [d1, d2, d3] }
  | _ => none }
def TreeReturnsWrongFalsely : Prop := treeReturnsRow.holds Tryd.pinned (OpenSpec.ofChange treeReturnsWrong)

/-- 'freightlaw7.TreeOnly': WHATEVER THE INPUT: true; the input reads as it did. -/
def treeOnlySpec : ChangeSpec := { name := "treeOnly", fn := fun _ => fun
  | [d] => { results := [.lit (.bool true)], args := [d] }
  | _ => none }
def treeOnlyRow : OpenClaim := { program := "ytgeihjpifbkpkaadoor", sum := "40352b0dacdfe6438735313ed6dcca41abaf7a4654d23c8ec6923cf09653e7c0", func := "freight/freightlaw7.TreeOnly", spec := "treeOnly", unfollowed := true, recurses := true, named := ["unicode/utf8.first", "unicode/utf8.acceptRanges"], apart := false, laid := [("unicode/utf8.acceptRanges", laid_unicode_utf8_acceptRanges), ("unicode/utf8.first", laid_unicode_utf8_first)] }
def TreeOnlySaid : Prop := treeOnlyRow.holds Tryd.pinned (OpenSpec.ofChange treeOnlySpec)

/-- ITS FALSE NEIGHBOUR: 'it returns false'. Refute it at one input. -/
def treeOnlyWrong : ChangeSpec := { name := "treeOnly", fn := fun _ => fun
  | [d] => { results := [.lit (.bool false)], args := [d] }
  | _ => none }
def TreeOnlyWrongFalsely : Prop := treeOnlyRow.holds Tryd.pinned (OpenSpec.ofChange treeOnlyWrong)

/-- 'freightlaw7.TreeTurned': WHATEVER THE INPUT: true; the input reads as it did. -/
def treeTurnedSpec : ChangeSpec := { name := "treeTurned", fn := fun _ => fun
  | [d1, d2, d3, d4, d5] => { results := [.lit (.bool true)], args := [d1, d2, d3, d4, d5] }
  | _ => none }
def treeTurnedRow : OpenClaim := { program := "ytgeihjpifbkpkaadoor", sum := "40352b0dacdfe6438735313ed6dcca41abaf7a4654d23c8ec6923cf09653e7c0", func := "freight/freightlaw7.TreeTurned", spec := "treeTurned", unfollowed := true, recurses := true, named := ["unicode/utf8.first", "unicode/utf8.acceptRanges"], apart := false, laid := [("unicode/utf8.acceptRanges", laid_unicode_utf8_acceptRanges), ("unicode/utf8.first", laid_unicode_utf8_first)] }
def TreeTurnedSaid : Prop := treeTurnedRow.holds Tryd.pinned (OpenSpec.ofChange treeTurnedSpec)

/-- ITS FALSE NEIGHBOUR: 'it returns false'. Refute it at one input. -/
def treeTurnedWrong : ChangeSpec := { name := "treeTurned", fn := fun _ => fun
  | [d1, d2, d3, d4, d5] => { results := [.lit (.bool false)], args := [d1, d2, d3, d4, d5] }
  | _ => none }
def TreeTurnedWrongFalsely : Prop := treeTurnedRow.holds Tryd.pinned (OpenSpec.ofChange treeTurnedWrong)

/-- 'freightlaw7.TreeKeeps': WHATEVER THE INPUT: true; the input reads as it did. -/
def treeKeepsSpec : ChangeSpec := { name := "treeKeeps", fn := fun _ => fun
  | [d1, d2] => { results := [.lit (.bool true)], args := [d1, d2] }
  | _ => none }
def treeKeepsRow : OpenClaim := { program := "ytgeihjpifbkpkaadoor", sum := "40352b0dacdfe6438735313ed6dcca41abaf7a4654d23c8ec6923cf09653e7c0", func := "freight/freightlaw7.TreeKeeps", spec := "treeKeeps", unfollowed := true, recurses := true, named := ["unicode/utf8.first", "unicode/utf8.acceptRanges"], apart := false, laid := [("unicode/utf8.acceptRanges", laid_unicode_utf8_acceptRanges), ("unicode/utf8.first", laid_unicode_utf8_first)] }
def TreeKeepsSaid : Prop := treeKeepsRow.holds Tryd.pinned (OpenSpec.ofChange treeKeepsSpec)

/-- ITS FALSE NEIGHBOUR: 'it returns false'. Refute it at one input. -/
def treeKeepsWrong : ChangeSpec := { name := "treeKeeps", fn := fun _ => fun
  | [d1, d2] => { results := [.lit (.bool false)], args := [d1, d2] }
  | _ => none }
def TreeKeepsWrongFalsely : Prop := treeKeepsRow.holds Tryd.pinned (OpenSpec.ofChange treeKeepsWrong)

/- THE SECOND FORM. 'bulk': how many values and letters a reading holds, each counted each time it is reached (what is shared counts as often as it is met; a slice's spare places count too). A statement '..UptoSaid' is the law's where the arguments, and the package variables that the reading takes, are together of bulk at most 1048576: NARROWER than '..Said'. Prove '..Said' where nothing that the law and all that it calls make is longer than what came in: it says more and counts as full. Else prove '..UptoSaid'. A law counts once. -/
mutual
def uptoBulk {H : Type} : DataW H → Nat
  | .lit (.string bytes) => bytes.length + 1
  | .lit _ => 1
  | .nil => 1
  | .ptr d => uptoBulk d + 1
  | .slice elems spare => uptoBulkAll elems + uptoBulkAll spare + 1
  | .agg parts => uptoBulkAll parts + 1
  | .iface _ d => uptoBulk d + 1
  | .map entries => uptoBulkEntries entries + 1
  | .held _ => 1
def uptoBulkAll {H : Type} : List (DataW H) → Nat
  | [] => 0
  | d :: r => uptoBulk d + uptoBulkAll r
def uptoBulkEntries {H : Type} : List (Lit × DataW H) → Nat
  | [] => 0
  | x :: r => uptoBulkEntry x + uptoBulkEntries r
def uptoBulkEntry {H : Type} : Lit × DataW H → Nat
  | (.string bytes, d) => bytes.length + uptoBulk d + 1
  | (_, d) => uptoBulk d + 1
 end
def uptoSmall : (H : Type) → List (DataW H) → Bool := fun _ ds => decide (uptoBulkAll ds ≤ 1048576)
def OpenSpec.upto (s : _root_.Go.ChangeSpec) : _root_.Go.OpenSpec := { _root_.Go.OpenSpec.ofChange s with cond := some uptoSmall }

/-- 'freightlaw7.TreeValid', WHERE WHAT IT READS IS OF BULK AT MOST 1048576: true; the input reads as it did. -/
def treeValidUptoRow : OpenClaim := { program := "ytgeihjpifbkpkaadoor", sum := "40352b0dacdfe6438735313ed6dcca41abaf7a4654d23c8ec6923cf09653e7c0", func := "freight/freightlaw7.TreeValid", spec := "treeValid", unfollowed := true, recurses := true, named := ["unicode/utf8.first", "unicode/utf8.acceptRanges"], apart := false, laid := [("unicode/utf8.acceptRanges", laid_unicode_utf8_acceptRanges), ("unicode/utf8.first", laid_unicode_utf8_first)], narrowed := true }
def TreeValidUptoSaid : Prop := treeValidUptoRow.holds Tryd.pinned (OpenSpec.upto treeValidSpec)

/-- 'freightlaw7.TreeEncodes', WHERE WHAT IT READS IS OF BULK AT MOST 1048576: true; the input reads as it did. -/
def treeEncodesUptoRow : OpenClaim := { program := "ytgeihjpifbkpkaadoor", sum := "40352b0dacdfe6438735313ed6dcca41abaf7a4654d23c8ec6923cf09653e7c0", func := "freight/freightlaw7.TreeEncodes", spec := "treeEncodes", unfollowed := true, recurses := true, named := ["unicode/utf8.first", "unicode/utf8.acceptRanges"], apart := false, laid := [("unicode/utf8.acceptRanges", laid_unicode_utf8_acceptRanges), ("unicode/utf8.first", laid_unicode_utf8_first)], narrowed := true }
def TreeEncodesUptoSaid : Prop := treeEncodesUptoRow.holds Tryd.pinned (OpenSpec.upto treeEncodesSpec)

/-- 'freightlaw7.TreeParses', WHERE WHAT IT READS IS OF BULK AT MOST 1048576: true; the input reads as it did. -/
def treeParsesUptoRow : OpenClaim := { program := "ytgeihjpifbkpkaadoor", sum := "40352b0dacdfe6438735313ed6dcca41abaf7a4654d23c8ec6923cf09653e7c0", func := "freight/freightlaw7.TreeParses", spec := "treeParses", unfollowed := true, recurses := true, named := ["unicode/utf8.first", "unicode/utf8.acceptRanges"], apart := false, laid := [("unicode/utf8.acceptRanges", laid_unicode_utf8_acceptRanges), ("unicode/utf8.first", laid_unicode_utf8_first)], narrowed := true }
def TreeParsesUptoSaid : Prop := treeParsesUptoRow.holds Tryd.pinned (OpenSpec.upto treeParsesSpec)

/-- 'freightlaw7.TreeReturns', WHERE WHAT IT READS IS OF BULK AT MOST 1048576: true; the input reads as it did. -/
def treeReturnsUptoRow : OpenClaim := { program := "ytgeihjpifbkpkaadoor", sum := "40352b0dacdfe6438735313ed6dcca41abaf7a4654d23c8ec6923cf09653e7c0", func := "freight/freightlaw7.TreeReturns", spec := "treeReturns", unfollowed := true, recurses := true, named := ["unicode/utf8.first", "unicode/utf8.acceptRanges"], apart := false, laid := [("unicode/utf8.acceptRanges", laid_unicode_utf8_acceptRanges), ("unicode/utf8.first", laid_unicode_utf8_first)], narrowed := true }
def TreeReturnsUptoSaid : Prop := treeReturnsUptoRow.holds Tryd.pinned (OpenSpec.upto treeReturnsSpec)

/-- 'freightlaw7.TreeOnly', WHERE WHAT IT READS IS OF BULK AT MOST 1048576: true; the input reads as it did. -/
def treeOnlyUptoRow : OpenClaim := { program := "ytgeihjpifbkpkaadoor", sum := "40352b0dacdfe6438735313ed6dcca41abaf7a4654d23c8ec6923cf09653e7c0", func := "freight/freightlaw7.TreeOnly", spec := "treeOnly", unfollowed := true, recurses := true, named := ["unicode/utf8.first", "unicode/utf8.acceptRanges"], apart := false, laid := [("unicode/utf8.acceptRanges", laid_unicode_utf8_acceptRanges), ("unicode/utf8.first", laid_unicode_utf8_first)], narrowed := true }
def TreeOnlyUptoSaid : Prop := treeOnlyUptoRow.holds Tryd.pinned (OpenSpec.upto treeOnlySpec)

/-- 'freightlaw7.TreeTurned', WHERE WHAT IT READS IS OF BULK AT MOST 1048576: true; the input reads as it did. -/
def treeTurnedUptoRow : OpenClaim := { program := "ytgeihjpifbkpkaadoor", sum := "40352b0dacdfe6438735313ed6dcca41abaf7a4654d23c8ec6923cf09653e7c0", func := "freight/freightlaw7.TreeTurned", spec := "treeTurned", unfollowed := true, recurses := true, named := ["unicode/utf8.first", "unicode/utf8.acceptRanges"], apart := false, laid := [("unicode/utf8.acceptRanges", laid_unicode_utf8_acceptRanges), ("unicode/utf8.first", laid_unicode_utf8_first)], narrowed := true }
def TreeTurnedUptoSaid : Prop := treeTurnedUptoRow.holds Tryd.pinned (OpenSpec.upto treeTurnedSpec)

/-- 'freightlaw7.TreeKeeps', WHERE WHAT IT READS IS OF BULK AT MOST 1048576: true; the input reads as it did. -/
def treeKeepsUptoRow : OpenClaim := { program := "ytgeihjpifbkpkaadoor", sum := "40352b0dacdfe6438735313ed6dcca41abaf7a4654d23c8ec6923cf09653e7c0", func := "freight/freightlaw7.TreeKeeps", spec := "treeKeeps", unfollowed := true, recurses := true, named := ["unicode/utf8.first", "unicode/utf8.acceptRanges"], apart := false, laid := [("unicode/utf8.acceptRanges", laid_unicode_utf8_acceptRanges), ("unicode/utf8.first", laid_unicode_utf8_first)], narrowed := true }
def TreeKeepsUptoSaid : Prop := treeKeepsUptoRow.holds Tryd.pinned (OpenSpec.upto treeKeepsSpec)

end Rows
end Go.Proofs.YtgeihjpifbkpkaaDoor
