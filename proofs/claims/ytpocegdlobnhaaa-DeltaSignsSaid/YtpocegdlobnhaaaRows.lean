/-
  No cell of these rows narrows 'for every input' (looked for: loops, veiled, ifaces, maps, wideKeys, modest, calm, conditions, laid).
  DERIVED. THE GIVEN ROWS OF THIS SEAT. 11 by the template 'for every input the law returns true; each argument reads behind the call as it read before'; 0 by the template 'total and deterministic' (their statements: YtpocegdlobnhaaaTotals.lean).
  GIVEN WITH THE SEED: the statements are not yours to turn. If you find one false, say at which input.
  Laid BY PROGRAM, IN A SANDBOX (cutbox-rows.mjs): the forced cells as the released guide's own fill.sh prints them over the translation d0c6ef99d967cf68… (all of the seat's roots in one cut). By AI agents, Wed Nov 11 2026. No macro, syntax, notation, axiom, sorry.
-/
import Derived.Test.YtpocegdlobnhaaaChecked
import GoSem.Claim
import GoSem.ClaimJoined
import GoSem.ClaimMapViews
import Derived.JoinedTies
import Derived.KernelRfl
namespace Go.Proofs.Ytpocegdlobnhaaa
/- THE CELL 'sum', in the pinned program and in every row, IS THE sha256 OF THE DUMP (.gsa) THAT YtpocegdlobnhaaaProg.lean LOADS. Nothing in Lean hashes anything: it is a label: what it is worth is what the hold of that sum in a sandbox is worth. -/
noncomputable def Try.pinned : Pinned := { name := "ytpocegdlobnhaaa", sum := "d0c6ef99d967cf68743a330ff68d7ef2df85781383c79c14e9781c744fa915b6", checked := Try.checked }
namespace Rows
def none {H : Type} : Left H := { results := [], args := [] }

/-- 'freightlaw18.DeltaSigns': WHATEVER THE INPUT: true; the input reads as it did. -/
def deltaSignsSpec : ChangeSpec := { name := "deltaSigns", fn := fun _ => fun
  | [d1, d2, d3, d4] => { results := [.lit (.bool true)], args := [d1, d2, d3, d4] }
  | _ => none }
def deltaSignsRow : OpenClaim := { program := "ytpocegdlobnhaaa", sum := "d0c6ef99d967cf68743a330ff68d7ef2df85781383c79c14e9781c744fa915b6", func := "freight/freightlaw18.DeltaSigns", spec := "deltaSigns", unfollowed := true, recurses := true, apart := false }
def DeltaSignsSaid : Prop := deltaSignsRow.holds Try.pinned (OpenSpec.ofChange deltaSignsSpec)

/-- ITS FALSE NEIGHBOUR: 'it returns false'. Refute it at one input. -/
def deltaSignsWrong : ChangeSpec := { name := "deltaSigns", fn := fun _ => fun
  | [d1, d2, d3, d4] => { results := [.lit (.bool false)], args := [d1, d2, d3, d4] }
  | _ => none }
def DeltaSignsWrongFalsely : Prop := deltaSignsRow.holds Try.pinned (OpenSpec.ofChange deltaSignsWrong)

/-- 'freightlaw18.DeltaMakes': WHATEVER THE INPUT: true; the input reads as it did. -/
def deltaMakesSpec : ChangeSpec := { name := "deltaMakes", fn := fun _ => fun
  | [d1, d2, d3] => { results := [.lit (.bool true)], args := [d1, d2, d3] }
  | _ => none }
def deltaMakesRow : OpenClaim := { program := "ytpocegdlobnhaaa", sum := "d0c6ef99d967cf68743a330ff68d7ef2df85781383c79c14e9781c744fa915b6", func := "freight/freightlaw18.DeltaMakes", spec := "deltaMakes", unfollowed := true, recurses := true, apart := false }
def DeltaMakesSaid : Prop := deltaMakesRow.holds Try.pinned (OpenSpec.ofChange deltaMakesSpec)

/-- ITS FALSE NEIGHBOUR: 'it returns false'. Refute it at one input. -/
def deltaMakesWrong : ChangeSpec := { name := "deltaMakes", fn := fun _ => fun
  | [d1, d2, d3] => { results := [.lit (.bool false)], args := [d1, d2, d3] }
  | _ => none }
def DeltaMakesWrongFalsely : Prop := deltaMakesRow.holds Try.pinned (OpenSpec.ofChange deltaMakesWrong)

/-- 'freightlaw18.DeltaApplies': WHATEVER THE INPUT: true; the input reads as it did. -/
def deltaAppliesSpec : ChangeSpec := { name := "deltaApplies", fn := fun _ => fun
  | [d1, d2, d3] => { results := [.lit (.bool true)], args := [d1, d2, d3] }
  | _ => none }
def deltaAppliesRow : OpenClaim := { program := "ytpocegdlobnhaaa", sum := "d0c6ef99d967cf68743a330ff68d7ef2df85781383c79c14e9781c744fa915b6", func := "freight/freightlaw18.DeltaApplies", spec := "deltaApplies", unfollowed := true, recurses := true, apart := false }
def DeltaAppliesSaid : Prop := deltaAppliesRow.holds Try.pinned (OpenSpec.ofChange deltaAppliesSpec)

/-- ITS FALSE NEIGHBOUR: 'it returns false'. Refute it at one input. -/
def deltaAppliesWrong : ChangeSpec := { name := "deltaApplies", fn := fun _ => fun
  | [d1, d2, d3] => { results := [.lit (.bool false)], args := [d1, d2, d3] }
  | _ => none }
def DeltaAppliesWrongFalsely : Prop := deltaAppliesRow.holds Try.pinned (OpenSpec.ofChange deltaAppliesWrong)

/-- 'freightlaw18.DeltaThere': WHATEVER THE INPUT: true; the input reads as it did. -/
def deltaThereSpec : ChangeSpec := { name := "deltaThere", fn := fun _ => fun
  | [d1, d2, d3, d4] => { results := [.lit (.bool true)], args := [d1, d2, d3, d4] }
  | _ => none }
def deltaThereRow : OpenClaim := { program := "ytpocegdlobnhaaa", sum := "d0c6ef99d967cf68743a330ff68d7ef2df85781383c79c14e9781c744fa915b6", func := "freight/freightlaw18.DeltaThere", spec := "deltaThere", unfollowed := true, recurses := true, apart := false }
def DeltaThereSaid : Prop := deltaThereRow.holds Try.pinned (OpenSpec.ofChange deltaThereSpec)

/-- ITS FALSE NEIGHBOUR: 'it returns false'. Refute it at one input. -/
def deltaThereWrong : ChangeSpec := { name := "deltaThere", fn := fun _ => fun
  | [d1, d2, d3, d4] => { results := [.lit (.bool false)], args := [d1, d2, d3, d4] }
  | _ => none }
def DeltaThereWrongFalsely : Prop := deltaThereRow.holds Try.pinned (OpenSpec.ofChange deltaThereWrong)

/-- 'freightlaw18.DeltaSelf': WHATEVER THE INPUT: true; the input reads as it did. -/
def deltaSelfSpec : ChangeSpec := { name := "deltaSelf", fn := fun _ => fun
  | [d1, d2, d3] => { results := [.lit (.bool true)], args := [d1, d2, d3] }
  | _ => none }
def deltaSelfRow : OpenClaim := { program := "ytpocegdlobnhaaa", sum := "d0c6ef99d967cf68743a330ff68d7ef2df85781383c79c14e9781c744fa915b6", func := "freight/freightlaw18.DeltaSelf", spec := "deltaSelf", unfollowed := true, recurses := true, apart := false }
def DeltaSelfSaid : Prop := deltaSelfRow.holds Try.pinned (OpenSpec.ofChange deltaSelfSpec)

/-- ITS FALSE NEIGHBOUR: 'it returns false'. Refute it at one input. -/
def deltaSelfWrong : ChangeSpec := { name := "deltaSelf", fn := fun _ => fun
  | [d1, d2, d3] => { results := [.lit (.bool false)], args := [d1, d2, d3] }
  | _ => none }
def DeltaSelfWrongFalsely : Prop := deltaSelfRow.holds Try.pinned (OpenSpec.ofChange deltaSelfWrong)

/-- 'freightlaw18.DeltaLeast': WHATEVER THE INPUT: true; the input reads as it did. -/
def deltaLeastSpec : ChangeSpec := { name := "deltaLeast", fn := fun _ => fun
  | [d1, d2] => { results := [.lit (.bool true)], args := [d1, d2] }
  | _ => none }
def deltaLeastRow : OpenClaim := { program := "ytpocegdlobnhaaa", sum := "d0c6ef99d967cf68743a330ff68d7ef2df85781383c79c14e9781c744fa915b6", func := "freight/freightlaw18.DeltaLeast", spec := "deltaLeast", unfollowed := true, recurses := true, apart := false }
def DeltaLeastSaid : Prop := deltaLeastRow.holds Try.pinned (OpenSpec.ofChange deltaLeastSpec)

/-- ITS FALSE NEIGHBOUR: 'it returns false'. Refute it at one input. -/
def deltaLeastWrong : ChangeSpec := { name := "deltaLeast", fn := fun _ => fun
  | [d1, d2] => { results := [.lit (.bool false)], args := [d1, d2] }
  | _ => none }
def DeltaLeastWrongFalsely : Prop := deltaLeastRow.holds Try.pinned (OpenSpec.ofChange deltaLeastWrong)

/-- 'freightlaw18.DeltaOwn': WHATEVER THE INPUT: true; the input reads as it did. -/
def deltaOwnSpec : ChangeSpec := { name := "deltaOwn", fn := fun _ => fun
  | [d1, d2, d3, d4, d5, d6, d7] => { results := [.lit (.bool true)], args := [d1, d2, d3, d4, d5, d6, d7] }
  | _ => none }
def deltaOwnRow : OpenClaim := { program := "ytpocegdlobnhaaa", sum := "d0c6ef99d967cf68743a330ff68d7ef2df85781383c79c14e9781c744fa915b6", func := "freight/freightlaw18.DeltaOwn", spec := "deltaOwn", unfollowed := true, recurses := true, apart := false }
def DeltaOwnSaid : Prop := deltaOwnRow.holds Try.pinned (OpenSpec.ofChange deltaOwnSpec)

/-- ITS FALSE NEIGHBOUR: 'it returns false'. Refute it at one input. -/
def deltaOwnWrong : ChangeSpec := { name := "deltaOwn", fn := fun _ => fun
  | [d1, d2, d3, d4, d5, d6, d7] => { results := [.lit (.bool false)], args := [d1, d2, d3, d4, d5, d6, d7] }
  | _ => none }
def DeltaOwnWrongFalsely : Prop := deltaOwnRow.holds Try.pinned (OpenSpec.ofChange deltaOwnWrong)

/-- 'freightlaw18.DeltaEncodes': WHATEVER THE INPUT: true; the input reads as it did. -/
def deltaEncodesSpec : ChangeSpec := { name := "deltaEncodes", fn := fun _ => fun
  | [d] => { results := [.lit (.bool true)], args := [d] }
  | _ => none }
def deltaEncodesRow : OpenClaim := { program := "ytpocegdlobnhaaa", sum := "d0c6ef99d967cf68743a330ff68d7ef2df85781383c79c14e9781c744fa915b6", func := "freight/freightlaw18.DeltaEncodes", spec := "deltaEncodes", unfollowed := true, recurses := true, apart := false }
def DeltaEncodesSaid : Prop := deltaEncodesRow.holds Try.pinned (OpenSpec.ofChange deltaEncodesSpec)

/-- ITS FALSE NEIGHBOUR: 'it returns false'. Refute it at one input. -/
def deltaEncodesWrong : ChangeSpec := { name := "deltaEncodes", fn := fun _ => fun
  | [d] => { results := [.lit (.bool false)], args := [d] }
  | _ => none }
def DeltaEncodesWrongFalsely : Prop := deltaEncodesRow.holds Try.pinned (OpenSpec.ofChange deltaEncodesWrong)

/-- 'freightlaw18.DeltaDecodes': WHATEVER THE INPUT: true; the input reads as it did. -/
def deltaDecodesSpec : ChangeSpec := { name := "deltaDecodes", fn := fun _ => fun
  | [d1, d2] => { results := [.lit (.bool true)], args := [d1, d2] }
  | _ => none }
def deltaDecodesRow : OpenClaim := { program := "ytpocegdlobnhaaa", sum := "d0c6ef99d967cf68743a330ff68d7ef2df85781383c79c14e9781c744fa915b6", func := "freight/freightlaw18.DeltaDecodes", spec := "deltaDecodes", unfollowed := true, recurses := true, apart := false }
def DeltaDecodesSaid : Prop := deltaDecodesRow.holds Try.pinned (OpenSpec.ofChange deltaDecodesSpec)

/-- ITS FALSE NEIGHBOUR: 'it returns false'. Refute it at one input. -/
def deltaDecodesWrong : ChangeSpec := { name := "deltaDecodes", fn := fun _ => fun
  | [d1, d2] => { results := [.lit (.bool false)], args := [d1, d2] }
  | _ => none }
def DeltaDecodesWrongFalsely : Prop := deltaDecodesRow.holds Try.pinned (OpenSpec.ofChange deltaDecodesWrong)

/-- 'freightlaw18.DeltaReturns': WHATEVER THE INPUT: true; the input reads as it did. -/
def deltaReturnsSpec : ChangeSpec := { name := "deltaReturns", fn := fun _ => fun
  | [d1, d2, d3, d4] => { results := [.lit (.bool true)], args := [d1, d2, d3, d4] }
  | _ => none }
def deltaReturnsRow : OpenClaim := { program := "ytpocegdlobnhaaa", sum := "d0c6ef99d967cf68743a330ff68d7ef2df85781383c79c14e9781c744fa915b6", func := "freight/freightlaw18.DeltaReturns", spec := "deltaReturns", unfollowed := true, recurses := true, apart := false }
def DeltaReturnsSaid : Prop := deltaReturnsRow.holds Try.pinned (OpenSpec.ofChange deltaReturnsSpec)

/-- ITS FALSE NEIGHBOUR: 'it returns false'. Refute it at one input. -/
def deltaReturnsWrong : ChangeSpec := { name := "deltaReturns", fn := fun _ => fun
  | [d1, d2, d3, d4] => { results := [.lit (.bool false)], args := [d1, d2, d3, d4] }
  | _ => none }
def DeltaReturnsWrongFalsely : Prop := deltaReturnsRow.holds Try.pinned (OpenSpec.ofChange deltaReturnsWrong)

/-- 'freightlaw18.DeltaTurned': WHATEVER THE INPUT: true; the input reads as it did. -/
def deltaTurnedSpec : ChangeSpec := { name := "deltaTurned", fn := fun _ => fun
  | [d1, d2, d3, d4, d5, d6] => { results := [.lit (.bool true)], args := [d1, d2, d3, d4, d5, d6] }
  | _ => none }
def deltaTurnedRow : OpenClaim := { program := "ytpocegdlobnhaaa", sum := "d0c6ef99d967cf68743a330ff68d7ef2df85781383c79c14e9781c744fa915b6", func := "freight/freightlaw18.DeltaTurned", spec := "deltaTurned", unfollowed := true, recurses := true, apart := false }
def DeltaTurnedSaid : Prop := deltaTurnedRow.holds Try.pinned (OpenSpec.ofChange deltaTurnedSpec)

/-- ITS FALSE NEIGHBOUR: 'it returns false'. Refute it at one input. -/
def deltaTurnedWrong : ChangeSpec := { name := "deltaTurned", fn := fun _ => fun
  | [d1, d2, d3, d4, d5, d6] => { results := [.lit (.bool false)], args := [d1, d2, d3, d4, d5, d6] }
  | _ => none }
def DeltaTurnedWrongFalsely : Prop := deltaTurnedRow.holds Try.pinned (OpenSpec.ofChange deltaTurnedWrong)

/- THE SECOND FORM. 'bulk': how many values and letters a reading holds, each counted each time it is reached (what is shared counts as often as it is met; a slice's spare places count too). A statement '..UptoSaid' is the law's where the arguments, and the package variables that the reading takes, are together of bulk at most 1048576: NARROWER than '..Said'. Prove '..Said' where nothing that the law and all that it calls make is longer than what came in: it says more and counts as full. Else prove '..UptoSaid'. A law counts once. -/
mutual
def uptoBulk {H : Type} : DataW H → Nat
  | .lit (.string bytes) => bytes.length + 1
  | .lit _ => 1
  | .nil => 1
  | .ptr d => uptoBulk d + 1
  | .slice elems spare => uptoBulkAll elems + uptoBulkAll spare + 1
  | .agg parts => uptoBulkAll parts + 1
  | .iface _ d => uptoBulk d + 1
  | .map entries => uptoBulkEntries entries + 1
  | .held _ => 1
def uptoBulkAll {H : Type} : List (DataW H) → Nat
  | [] => 0
  | d :: r => uptoBulk d + uptoBulkAll r
def uptoBulkEntries {H : Type} : List (Lit × DataW H) → Nat
  | [] => 0
  | x :: r => uptoBulkEntry x + uptoBulkEntries r
def uptoBulkEntry {H : Type} : Lit × DataW H → Nat
  | (.string bytes, d) => bytes.length + uptoBulk d + 1
  | (_, d) => uptoBulk d + 1
 end
def uptoSmall : (H : Type) → List (DataW H) → Bool := fun _ ds => decide (uptoBulkAll ds ≤ 1048576)
def OpenSpec.upto (s : _root_.Go.ChangeSpec) : _root_.Go.OpenSpec := { _root_.Go.OpenSpec.ofChange s with cond := some uptoSmall }

/-- 'freightlaw18.DeltaSigns', WHERE WHAT IT READS IS OF BULK AT MOST 1048576: true; the input reads as it did. -/
def deltaSignsUptoRow : OpenClaim := { program := "ytpocegdlobnhaaa", sum := "d0c6ef99d967cf68743a330ff68d7ef2df85781383c79c14e9781c744fa915b6", func := "freight/freightlaw18.DeltaSigns", spec := "deltaSigns", unfollowed := true, recurses := true, apart := false, narrowed := true }
def DeltaSignsUptoSaid : Prop := deltaSignsUptoRow.holds Try.pinned (OpenSpec.upto deltaSignsSpec)

/-- 'freightlaw18.DeltaMakes', WHERE WHAT IT READS IS OF BULK AT MOST 1048576: true; the input reads as it did. -/
def deltaMakesUptoRow : OpenClaim := { program := "ytpocegdlobnhaaa", sum := "d0c6ef99d967cf68743a330ff68d7ef2df85781383c79c14e9781c744fa915b6", func := "freight/freightlaw18.DeltaMakes", spec := "deltaMakes", unfollowed := true, recurses := true, apart := false, narrowed := true }
def DeltaMakesUptoSaid : Prop := deltaMakesUptoRow.holds Try.pinned (OpenSpec.upto deltaMakesSpec)

/-- 'freightlaw18.DeltaApplies', WHERE WHAT IT READS IS OF BULK AT MOST 1048576: true; the input reads as it did. -/
def deltaAppliesUptoRow : OpenClaim := { program := "ytpocegdlobnhaaa", sum := "d0c6ef99d967cf68743a330ff68d7ef2df85781383c79c14e9781c744fa915b6", func := "freight/freightlaw18.DeltaApplies", spec := "deltaApplies", unfollowed := true, recurses := true, apart := false, narrowed := true }
def DeltaAppliesUptoSaid : Prop := deltaAppliesUptoRow.holds Try.pinned (OpenSpec.upto deltaAppliesSpec)

/-- 'freightlaw18.DeltaThere', WHERE WHAT IT READS IS OF BULK AT MOST 1048576: true; the input reads as it did. -/
def deltaThereUptoRow : OpenClaim := { program := "ytpocegdlobnhaaa", sum := "d0c6ef99d967cf68743a330ff68d7ef2df85781383c79c14e9781c744fa915b6", func := "freight/freightlaw18.DeltaThere", spec := "deltaThere", unfollowed := true, recurses := true, apart := false, narrowed := true }
def DeltaThereUptoSaid : Prop := deltaThereUptoRow.holds Try.pinned (OpenSpec.upto deltaThereSpec)

/-- 'freightlaw18.DeltaSelf', WHERE WHAT IT READS IS OF BULK AT MOST 1048576: true; the input reads as it did. -/
def deltaSelfUptoRow : OpenClaim := { program := "ytpocegdlobnhaaa", sum := "d0c6ef99d967cf68743a330ff68d7ef2df85781383c79c14e9781c744fa915b6", func := "freight/freightlaw18.DeltaSelf", spec := "deltaSelf", unfollowed := true, recurses := true, apart := false, narrowed := true }
def DeltaSelfUptoSaid : Prop := deltaSelfUptoRow.holds Try.pinned (OpenSpec.upto deltaSelfSpec)

/-- 'freightlaw18.DeltaLeast', WHERE WHAT IT READS IS OF BULK AT MOST 1048576: true; the input reads as it did. -/
def deltaLeastUptoRow : OpenClaim := { program := "ytpocegdlobnhaaa", sum := "d0c6ef99d967cf68743a330ff68d7ef2df85781383c79c14e9781c744fa915b6", func := "freight/freightlaw18.DeltaLeast", spec := "deltaLeast", unfollowed := true, recurses := true, apart := false, narrowed := true }
def DeltaLeastUptoSaid : Prop := deltaLeastUptoRow.holds Try.pinned (OpenSpec.upto deltaLeastSpec)

/-- 'freightlaw18.DeltaOwn', WHERE WHAT IT READS IS OF BULK AT MOST 1048576: true; the input reads as it did. -/
def deltaOwnUptoRow : OpenClaim := { program := "ytpocegdlobnhaaa", sum := "d0c6ef99d967cf68743a330ff68d7ef2df85781383c79c14e9781c744fa915b6", func := "freight/freightlaw18.DeltaOwn", spec := "deltaOwn", unfollowed := true, recurses := true, apart := false, narrowed := true }
def DeltaOwnUptoSaid : Prop := deltaOwnUptoRow.holds Try.pinned (OpenSpec.upto deltaOwnSpec)

/-- 'freightlaw18.DeltaEncodes', WHERE WHAT IT READS IS OF BULK AT MOST 1048576: true; the input reads as it did. -/
def deltaEncodesUptoRow : OpenClaim := { program := "ytpocegdlobnhaaa", sum := "d0c6ef99d967cf68743a330ff68d7ef2df85781383c79c14e9781c744fa915b6", func := "freight/freightlaw18.DeltaEncodes", spec := "deltaEncodes", unfollowed := true, recurses := true, apart := false, narrowed := true }
def DeltaEncodesUptoSaid : Prop := deltaEncodesUptoRow.holds Try.pinned (OpenSpec.upto deltaEncodesSpec)

/-- 'freightlaw18.DeltaDecodes', WHERE WHAT IT READS IS OF BULK AT MOST 1048576: true; the input reads as it did. -/
def deltaDecodesUptoRow : OpenClaim := { program := "ytpocegdlobnhaaa", sum := "d0c6ef99d967cf68743a330ff68d7ef2df85781383c79c14e9781c744fa915b6", func := "freight/freightlaw18.DeltaDecodes", spec := "deltaDecodes", unfollowed := true, recurses := true, apart := false, narrowed := true }
def DeltaDecodesUptoSaid : Prop := deltaDecodesUptoRow.holds Try.pinned (OpenSpec.upto deltaDecodesSpec)

/-- 'freightlaw18.DeltaReturns', WHERE WHAT IT READS IS OF BULK AT MOST 1048576: true; the input reads as it did. -/
def deltaReturnsUptoRow : OpenClaim := { program := "ytpocegdlobnhaaa", sum := "d0c6ef99d967cf68743a330ff68d7ef2df85781383c79c14e9781c744fa915b6", func := "freight/freightlaw18.DeltaReturns", spec := "deltaReturns", unfollowed := true, recurses := true, apart := false, narrowed := true }
def DeltaReturnsUptoSaid : Prop := deltaReturnsUptoRow.holds Try.pinned (OpenSpec.upto deltaReturnsSpec)

/-- 'freightlaw18.DeltaTurned', WHERE WHAT IT READS IS OF BULK AT MOST 1048576: true; the input reads as it did. -/
def deltaTurnedUptoRow : OpenClaim := { program := "ytpocegdlobnhaaa", sum := "d0c6ef99d967cf68743a330ff68d7ef2df85781383c79c14e9781c744fa915b6", func := "freight/freightlaw18.DeltaTurned", spec := "deltaTurned", unfollowed := true, recurses := true, apart := false, narrowed := true }
def DeltaTurnedUptoSaid : Prop := deltaTurnedUptoRow.holds Try.pinned (OpenSpec.upto deltaTurnedSpec)

end Rows
end Go.Proofs.Ytpocegdlobnhaaa
