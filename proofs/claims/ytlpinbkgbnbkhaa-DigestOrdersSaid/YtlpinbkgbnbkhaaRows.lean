/-
  No cell of these rows narrows 'for every input' (looked for: loops, veiled, ifaces, maps, wideKeys, modest, calm, conditions, laid).
  DERIVED. THE GIVEN ROWS OF THIS SEAT. 9 by the template 'for every input the law returns true; each argument reads behind the call as it read before'; 0 by the template 'total and deterministic' (their statements: YtlpinbkgbnbkhaaTotals.lean).
  GIVEN WITH THE SEED: the statements are not yours to turn. If you find one false, say at which input.
  Laid BY PROGRAM, IN A SANDBOX (cutbox-rows.mjs): the forced cells as the released guide's own fill.sh prints them over the translation e3fe151eb3d9a42f… (all of the seat's roots in one cut). By AI agents, Wed Nov 11 2026. No macro, syntax, notation, axiom, sorry.
-/
import Derived.Test.YtlpinbkgbnbkhaaChecked
import GoSem.Claim
import GoSem.ClaimJoined
import GoSem.ClaimMapViews
import Derived.JoinedTies
import Derived.KernelRfl
namespace Go.Proofs.Ytlpinbkgbnbkhaa
/- THE CELL 'sum', in the pinned program and in every row, IS THE sha256 OF THE DUMP (.gsa) THAT YtlpinbkgbnbkhaaProg.lean LOADS. Nothing in Lean hashes anything: it is a label: what it is worth is what the hold of that sum in a sandbox is worth. -/
noncomputable def Try.pinned : Pinned := { name := "ytlpinbkgbnbkhaa", sum := "e3fe151eb3d9a42f58ca41845df3a214dac063296a0ef833504213e338d8543f", checked := Try.checked }
namespace Rows
def none {H : Type} : Left H := { results := [], args := [] }

/-- 'freightlaw2.DigestFull': WHATEVER THE INPUT: true; the input reads as it did. -/
def digestFullSpec : ChangeSpec := { name := "digestFull", fn := fun _ => fun
  | [d] => { results := [.lit (.bool true)], args := [d] }
  | _ => none }
def digestFullRow : OpenClaim := { program := "ytlpinbkgbnbkhaa", sum := "e3fe151eb3d9a42f58ca41845df3a214dac063296a0ef833504213e338d8543f", func := "freight/freightlaw2.DigestFull", spec := "digestFull", apart := false }
def DigestFullSaid : Prop := digestFullRow.holds Try.pinned (OpenSpec.ofChange digestFullSpec)

/-- ITS FALSE NEIGHBOUR: 'it returns false'. Refute it at one input. -/
def digestFullWrong : ChangeSpec := { name := "digestFull", fn := fun _ => fun
  | [d] => { results := [.lit (.bool false)], args := [d] }
  | _ => none }
def DigestFullWrongFalsely : Prop := digestFullRow.holds Try.pinned (OpenSpec.ofChange digestFullWrong)

/-- 'freightlaw2.DigestOf': WHATEVER THE INPUT: true; the input reads as it did. -/
def digestOfSpec : ChangeSpec := { name := "digestOf", fn := fun _ => fun
  | [d1, d2] => { results := [.lit (.bool true)], args := [d1, d2] }
  | _ => none }
def digestOfRow : OpenClaim := { program := "ytlpinbkgbnbkhaa", sum := "e3fe151eb3d9a42f58ca41845df3a214dac063296a0ef833504213e338d8543f", func := "freight/freightlaw2.DigestOf", spec := "digestOf", apart := false }
def DigestOfSaid : Prop := digestOfRow.holds Try.pinned (OpenSpec.ofChange digestOfSpec)

/-- ITS FALSE NEIGHBOUR: 'it returns false'. Refute it at one input. -/
def digestOfWrong : ChangeSpec := { name := "digestOf", fn := fun _ => fun
  | [d1, d2] => { results := [.lit (.bool false)], args := [d1, d2] }
  | _ => none }
def DigestOfWrongFalsely : Prop := digestOfRow.holds Try.pinned (OpenSpec.ofChange digestOfWrong)

/-- 'freightlaw2.DigestHex': WHATEVER THE INPUT: true; the input reads as it did. -/
def digestHexSpec : ChangeSpec := { name := "digestHex", fn := fun _ => fun
  | [d] => { results := [.lit (.bool true)], args := [d] }
  | _ => none }
def digestHexRow : OpenClaim := { program := "ytlpinbkgbnbkhaa", sum := "e3fe151eb3d9a42f58ca41845df3a214dac063296a0ef833504213e338d8543f", func := "freight/freightlaw2.DigestHex", spec := "digestHex", apart := false }
def DigestHexSaid : Prop := digestHexRow.holds Try.pinned (OpenSpec.ofChange digestHexSpec)

/-- ITS FALSE NEIGHBOUR: 'it returns false'. Refute it at one input. -/
def digestHexWrong : ChangeSpec := { name := "digestHex", fn := fun _ => fun
  | [d] => { results := [.lit (.bool false)], args := [d] }
  | _ => none }
def DigestHexWrongFalsely : Prop := digestHexRow.holds Try.pinned (OpenSpec.ofChange digestHexWrong)

/-- 'freightlaw2.DigestParse': WHATEVER THE INPUT: true; the input reads as it did. -/
def digestParseSpec : ChangeSpec := { name := "digestParse", fn := fun _ => fun
  | [d] => { results := [.lit (.bool true)], args := [d] }
  | _ => none }
def digestParseRow : OpenClaim := { program := "ytlpinbkgbnbkhaa", sum := "e3fe151eb3d9a42f58ca41845df3a214dac063296a0ef833504213e338d8543f", func := "freight/freightlaw2.DigestParse", spec := "digestParse", apart := false }
def DigestParseSaid : Prop := digestParseRow.holds Try.pinned (OpenSpec.ofChange digestParseSpec)

/-- ITS FALSE NEIGHBOUR: 'it returns false'. Refute it at one input. -/
def digestParseWrong : ChangeSpec := { name := "digestParse", fn := fun _ => fun
  | [d] => { results := [.lit (.bool false)], args := [d] }
  | _ => none }
def DigestParseWrongFalsely : Prop := digestParseRow.holds Try.pinned (OpenSpec.ofChange digestParseWrong)

/-- 'freightlaw2.DigestWidths': WHATEVER THE INPUT: true; the input reads as it did. -/
def digestWidthsSpec : ChangeSpec := { name := "digestWidths", fn := fun _ => fun
  | [d1, d2, d3] => { results := [.lit (.bool true)], args := [d1, d2, d3] }
  | _ => none }
def digestWidthsRow : OpenClaim := { program := "ytlpinbkgbnbkhaa", sum := "e3fe151eb3d9a42f58ca41845df3a214dac063296a0ef833504213e338d8543f", func := "freight/freightlaw2.DigestWidths", spec := "digestWidths", apart := false }
def DigestWidthsSaid : Prop := digestWidthsRow.holds Try.pinned (OpenSpec.ofChange digestWidthsSpec)

/-- ITS FALSE NEIGHBOUR: 'it returns false'. Refute it at one input. -/
def digestWidthsWrong : ChangeSpec := { name := "digestWidths", fn := fun _ => fun
  | [d1, d2, d3] => { results := [.lit (.bool false)], args := [d1, d2, d3] }
  | _ => none }
def DigestWidthsWrongFalsely : Prop := digestWidthsRow.holds Try.pinned (OpenSpec.ofChange digestWidthsWrong)

/-- 'freightlaw2.DigestHash': WHATEVER THE INPUT: true; the input reads as it did. -/
def digestHashSpec : ChangeSpec := { name := "digestHash", fn := fun _ => fun
  | [d] => { results := [.lit (.bool true)], args := [d] }
  | _ => none }
def digestHashRow : OpenClaim := { program := "ytlpinbkgbnbkhaa", sum := "e3fe151eb3d9a42f58ca41845df3a214dac063296a0ef833504213e338d8543f", func := "freight/freightlaw2.DigestHash", spec := "digestHash", apart := false }
def DigestHashSaid : Prop := digestHashRow.holds Try.pinned (OpenSpec.ofChange digestHashSpec)

/-- ITS FALSE NEIGHBOUR: 'it returns false'. Refute it at one input. -/
def digestHashWrong : ChangeSpec := { name := "digestHash", fn := fun _ => fun
  | [d] => { results := [.lit (.bool false)], args := [d] }
  | _ => none }
def DigestHashWrongFalsely : Prop := digestHashRow.holds Try.pinned (OpenSpec.ofChange digestHashWrong)

/-- 'freightlaw2.DigestPieces': WHATEVER THE INPUT: true; the input reads as it did. -/
def digestPiecesSpec : ChangeSpec := { name := "digestPieces", fn := fun _ => fun
  | [d1, d2] => { results := [.lit (.bool true)], args := [d1, d2] }
  | _ => none }
def digestPiecesRow : OpenClaim := { program := "ytlpinbkgbnbkhaa", sum := "e3fe151eb3d9a42f58ca41845df3a214dac063296a0ef833504213e338d8543f", func := "freight/freightlaw2.DigestPieces", spec := "digestPieces", apart := false }
def DigestPiecesSaid : Prop := digestPiecesRow.holds Try.pinned (OpenSpec.ofChange digestPiecesSpec)

/-- ITS FALSE NEIGHBOUR: 'it returns false'. Refute it at one input. -/
def digestPiecesWrong : ChangeSpec := { name := "digestPieces", fn := fun _ => fun
  | [d1, d2] => { results := [.lit (.bool false)], args := [d1, d2] }
  | _ => none }
def DigestPiecesWrongFalsely : Prop := digestPiecesRow.holds Try.pinned (OpenSpec.ofChange digestPiecesWrong)

/-- 'freightlaw2.DigestNothing': WHATEVER THE INPUT: true; the input reads as it did. -/
def digestNothingSpec : ChangeSpec := { name := "digestNothing", fn := fun _ => fun
  | [d] => { results := [.lit (.bool true)], args := [d] }
  | _ => none }
def digestNothingRow : OpenClaim := { program := "ytlpinbkgbnbkhaa", sum := "e3fe151eb3d9a42f58ca41845df3a214dac063296a0ef833504213e338d8543f", func := "freight/freightlaw2.DigestNothing", spec := "digestNothing", apart := false }
def DigestNothingSaid : Prop := digestNothingRow.holds Try.pinned (OpenSpec.ofChange digestNothingSpec)

/-- ITS FALSE NEIGHBOUR: 'it returns false'. Refute it at one input. -/
def digestNothingWrong : ChangeSpec := { name := "digestNothing", fn := fun _ => fun
  | [d] => { results := [.lit (.bool false)], args := [d] }
  | _ => none }
def DigestNothingWrongFalsely : Prop := digestNothingRow.holds Try.pinned (OpenSpec.ofChange digestNothingWrong)

/-- 'freightlaw2.DigestOrders': WHATEVER THE INPUT: true; the input reads as it did. -/
def digestOrdersSpec : ChangeSpec := { name := "digestOrders", fn := fun _ => fun
  | [d1, d2, d3] => { results := [.lit (.bool true)], args := [d1, d2, d3] }
  | _ => none }
def digestOrdersRow : OpenClaim := { program := "ytlpinbkgbnbkhaa", sum := "e3fe151eb3d9a42f58ca41845df3a214dac063296a0ef833504213e338d8543f", func := "freight/freightlaw2.DigestOrders", spec := "digestOrders", inPlace := ["internal/bytealg.Compare"], apart := false }
def DigestOrdersSaid : Prop := digestOrdersRow.holds Try.pinned (OpenSpec.ofChange digestOrdersSpec)

/-- ITS FALSE NEIGHBOUR: 'it returns false'. Refute it at one input. -/
def digestOrdersWrong : ChangeSpec := { name := "digestOrders", fn := fun _ => fun
  | [d1, d2, d3] => { results := [.lit (.bool false)], args := [d1, d2, d3] }
  | _ => none }
def DigestOrdersWrongFalsely : Prop := digestOrdersRow.holds Try.pinned (OpenSpec.ofChange digestOrdersWrong)

/- THE SECOND FORM. 'bulk': how many values and letters a reading holds, each counted each time it is reached (what is shared counts as often as it is met; a slice's spare places count too). A statement '..UptoSaid' is the law's where the arguments, and the package variables that the reading takes, are together of bulk at most 1048576: NARROWER than '..Said'. Prove '..Said' where nothing that the law and all that it calls make is longer than what came in: it says more and counts as full. Else prove '..UptoSaid'. A law counts once. -/
mutual
def uptoBulk {H : Type} : DataW H → Nat
  | .lit (.string bytes) => bytes.length + 1
  | .lit _ => 1
  | .nil => 1
  | .ptr d => uptoBulk d + 1
  | .slice elems spare => uptoBulkAll elems + uptoBulkAll spare + 1
  | .agg parts => uptoBulkAll parts + 1
  | .iface _ d => uptoBulk d + 1
  | .map entries => uptoBulkEntries entries + 1
  | .held _ => 1
def uptoBulkAll {H : Type} : List (DataW H) → Nat
  | [] => 0
  | d :: r => uptoBulk d + uptoBulkAll r
def uptoBulkEntries {H : Type} : List (Lit × DataW H) → Nat
  | [] => 0
  | x :: r => uptoBulkEntry x + uptoBulkEntries r
def uptoBulkEntry {H : Type} : Lit × DataW H → Nat
  | (.string bytes, d) => bytes.length + uptoBulk d + 1
  | (_, d) => uptoBulk d + 1
 end
def uptoSmall : (H : Type) → List (DataW H) → Bool := fun _ ds => decide (uptoBulkAll ds ≤ 1048576)
def OpenSpec.upto (s : _root_.Go.ChangeSpec) : _root_.Go.OpenSpec := { _root_.Go.OpenSpec.ofChange s with cond := some uptoSmall }

/-- 'freightlaw2.DigestFull', WHERE WHAT IT READS IS OF BULK AT MOST 1048576: true; the input reads as it did. -/
def digestFullUptoRow : OpenClaim := { program := "ytlpinbkgbnbkhaa", sum := "e3fe151eb3d9a42f58ca41845df3a214dac063296a0ef833504213e338d8543f", func := "freight/freightlaw2.DigestFull", spec := "digestFull", apart := false, narrowed := true }
def DigestFullUptoSaid : Prop := digestFullUptoRow.holds Try.pinned (OpenSpec.upto digestFullSpec)

/-- 'freightlaw2.DigestOf', WHERE WHAT IT READS IS OF BULK AT MOST 1048576: true; the input reads as it did. -/
def digestOfUptoRow : OpenClaim := { program := "ytlpinbkgbnbkhaa", sum := "e3fe151eb3d9a42f58ca41845df3a214dac063296a0ef833504213e338d8543f", func := "freight/freightlaw2.DigestOf", spec := "digestOf", apart := false, narrowed := true }
def DigestOfUptoSaid : Prop := digestOfUptoRow.holds Try.pinned (OpenSpec.upto digestOfSpec)

/-- 'freightlaw2.DigestHex', WHERE WHAT IT READS IS OF BULK AT MOST 1048576: true; the input reads as it did. -/
def digestHexUptoRow : OpenClaim := { program := "ytlpinbkgbnbkhaa", sum := "e3fe151eb3d9a42f58ca41845df3a214dac063296a0ef833504213e338d8543f", func := "freight/freightlaw2.DigestHex", spec := "digestHex", apart := false, narrowed := true }
def DigestHexUptoSaid : Prop := digestHexUptoRow.holds Try.pinned (OpenSpec.upto digestHexSpec)

/-- 'freightlaw2.DigestParse', WHERE WHAT IT READS IS OF BULK AT MOST 1048576: true; the input reads as it did. -/
def digestParseUptoRow : OpenClaim := { program := "ytlpinbkgbnbkhaa", sum := "e3fe151eb3d9a42f58ca41845df3a214dac063296a0ef833504213e338d8543f", func := "freight/freightlaw2.DigestParse", spec := "digestParse", apart := false, narrowed := true }
def DigestParseUptoSaid : Prop := digestParseUptoRow.holds Try.pinned (OpenSpec.upto digestParseSpec)

/-- 'freightlaw2.DigestWidths', WHERE WHAT IT READS IS OF BULK AT MOST 1048576: true; the input reads as it did. -/
def digestWidthsUptoRow : OpenClaim := { program := "ytlpinbkgbnbkhaa", sum := "e3fe151eb3d9a42f58ca41845df3a214dac063296a0ef833504213e338d8543f", func := "freight/freightlaw2.DigestWidths", spec := "digestWidths", apart := false, narrowed := true }
def DigestWidthsUptoSaid : Prop := digestWidthsUptoRow.holds Try.pinned (OpenSpec.upto digestWidthsSpec)

/-- 'freightlaw2.DigestHash', WHERE WHAT IT READS IS OF BULK AT MOST 1048576: true; the input reads as it did. -/
def digestHashUptoRow : OpenClaim := { program := "ytlpinbkgbnbkhaa", sum := "e3fe151eb3d9a42f58ca41845df3a214dac063296a0ef833504213e338d8543f", func := "freight/freightlaw2.DigestHash", spec := "digestHash", apart := false, narrowed := true }
def DigestHashUptoSaid : Prop := digestHashUptoRow.holds Try.pinned (OpenSpec.upto digestHashSpec)

/-- 'freightlaw2.DigestPieces', WHERE WHAT IT READS IS OF BULK AT MOST 1048576: true; the input reads as it did. -/
def digestPiecesUptoRow : OpenClaim := { program := "ytlpinbkgbnbkhaa", sum := "e3fe151eb3d9a42f58ca41845df3a214dac063296a0ef833504213e338d8543f", func := "freight/freightlaw2.DigestPieces", spec := "digestPieces", apart := false, narrowed := true }
def DigestPiecesUptoSaid : Prop := digestPiecesUptoRow.holds Try.pinned (OpenSpec.upto digestPiecesSpec)

/-- 'freightlaw2.DigestNothing', WHERE WHAT IT READS IS OF BULK AT MOST 1048576: true; the input reads as it did. -/
def digestNothingUptoRow : OpenClaim := { program := "ytlpinbkgbnbkhaa", sum := "e3fe151eb3d9a42f58ca41845df3a214dac063296a0ef833504213e338d8543f", func := "freight/freightlaw2.DigestNothing", spec := "digestNothing", apart := false, narrowed := true }
def DigestNothingUptoSaid : Prop := digestNothingUptoRow.holds Try.pinned (OpenSpec.upto digestNothingSpec)

/-- 'freightlaw2.DigestOrders', WHERE WHAT IT READS IS OF BULK AT MOST 1048576: true; the input reads as it did. -/
def digestOrdersUptoRow : OpenClaim := { program := "ytlpinbkgbnbkhaa", sum := "e3fe151eb3d9a42f58ca41845df3a214dac063296a0ef833504213e338d8543f", func := "freight/freightlaw2.DigestOrders", spec := "digestOrders", inPlace := ["internal/bytealg.Compare"], apart := false, narrowed := true }
def DigestOrdersUptoSaid : Prop := digestOrdersUptoRow.holds Try.pinned (OpenSpec.upto digestOrdersSpec)

end Rows
end Go.Proofs.Ytlpinbkgbnbkhaa
