/-
  No cell of these rows narrows 'for every input' (looked for: loops, veiled, ifaces, maps, wideKeys, modest, calm, conditions, laid).
  DERIVED. THE GIVEN ROWS OF THIS SEAT. 8 by the template 'for every input the law returns true; each argument reads behind the call as it read before'; 0 by the template 'total and deterministic' (their statements: YtcbinihjbmgkdaaTotals.lean).
  GIVEN WITH THE SEED: the statements are not yours to turn. If you find one false, say at which input.
  Laid BY PROGRAM, IN A SANDBOX (cutbox-rows.mjs): the forced cells as the released guide's own fill.sh prints them over the translation f03a018c0a72800d… (all of the seat's roots in one cut). By AI agents, Wed Nov 11 2026. No macro, syntax, notation, axiom, sorry.
-/
import Derived.Test.YtcbinihjbmgkdaaChecked
import GoSem.Claim
import GoSem.ClaimJoined
import GoSem.ClaimMapViews
import Derived.JoinedTies
import Derived.KernelRfl
namespace Go.Proofs.Ytcbinihjbmgkdaa
/- THE CELL 'sum', in the pinned program and in every row, IS THE sha256 OF THE DUMP (.gsa) THAT YtcbinihjbmgkdaaProg.lean LOADS. Nothing in Lean hashes anything: it is a label: what it is worth is what the hold of that sum in a sandbox is worth. -/
noncomputable def Try.pinned : Pinned := { name := "ytcbinihjbmgkdaa", sum := "f03a018c0a72800de69b0b54a7a5b9d1e9dc2be7c745b8af6d6a87f0379e6e62", checked := Try.checked }
namespace Rows
def none {H : Type} : Left H := { results := [], args := [] }

/-- 'freightlaw3.RollSums': WHATEVER THE INPUT: true; the input reads as it did. -/
def rollSumsSpec : ChangeSpec := { name := "rollSums", fn := fun _ => fun
  | [d] => { results := [.lit (.bool true)], args := [d] }
  | _ => none }
def rollSumsRow : OpenClaim := { program := "ytcbinihjbmgkdaa", sum := "f03a018c0a72800de69b0b54a7a5b9d1e9dc2be7c745b8af6d6a87f0379e6e62", func := "freight/freightlaw3.RollSums", spec := "rollSums", unfollowed := true, recurses := true, apart := false }
def RollSumsSaid : Prop := rollSumsRow.holds Try.pinned (OpenSpec.ofChange rollSumsSpec)

/-- ITS FALSE NEIGHBOUR: 'it returns false'. Refute it at one input. -/
def rollSumsWrong : ChangeSpec := { name := "rollSums", fn := fun _ => fun
  | [d] => { results := [.lit (.bool false)], args := [d] }
  | _ => none }
def RollSumsWrongFalsely : Prop := rollSumsRow.holds Try.pinned (OpenSpec.ofChange rollSumsWrong)

/-- 'freightlaw3.RollMoves': WHATEVER THE INPUT: true; the input reads as it did. -/
def rollMovesSpec : ChangeSpec := { name := "rollMoves", fn := fun _ => fun
  | [d1, d2] => { results := [.lit (.bool true)], args := [d1, d2] }
  | _ => none }
def rollMovesRow : OpenClaim := { program := "ytcbinihjbmgkdaa", sum := "f03a018c0a72800de69b0b54a7a5b9d1e9dc2be7c745b8af6d6a87f0379e6e62", func := "freight/freightlaw3.RollMoves", spec := "rollMoves", unfollowed := true, recurses := true, apart := false }
def RollMovesSaid : Prop := rollMovesRow.holds Try.pinned (OpenSpec.ofChange rollMovesSpec)

/-- ITS FALSE NEIGHBOUR: 'it returns false'. Refute it at one input. -/
def rollMovesWrong : ChangeSpec := { name := "rollMoves", fn := fun _ => fun
  | [d1, d2] => { results := [.lit (.bool false)], args := [d1, d2] }
  | _ => none }
def RollMovesWrongFalsely : Prop := rollMovesRow.holds Try.pinned (OpenSpec.ofChange rollMovesWrong)

/-- 'freightlaw3.RollTwo': WHATEVER THE INPUT: true; the input reads as it did. -/
def rollTwoSpec : ChangeSpec := { name := "rollTwo", fn := fun _ => fun
  | [d1, d2, d3] => { results := [.lit (.bool true)], args := [d1, d2, d3] }
  | _ => none }
def rollTwoRow : OpenClaim := { program := "ytcbinihjbmgkdaa", sum := "f03a018c0a72800de69b0b54a7a5b9d1e9dc2be7c745b8af6d6a87f0379e6e62", func := "freight/freightlaw3.RollTwo", spec := "rollTwo", unfollowed := true, recurses := true, apart := false }
def RollTwoSaid : Prop := rollTwoRow.holds Try.pinned (OpenSpec.ofChange rollTwoSpec)

/-- ITS FALSE NEIGHBOUR: 'it returns false'. Refute it at one input. -/
def rollTwoWrong : ChangeSpec := { name := "rollTwo", fn := fun _ => fun
  | [d1, d2, d3] => { results := [.lit (.bool false)], args := [d1, d2, d3] }
  | _ => none }
def RollTwoWrongFalsely : Prop := rollTwoRow.holds Try.pinned (OpenSpec.ofChange rollTwoWrong)

/-- 'freightlaw3.RollWindows': WHATEVER THE INPUT: true; the input reads as it did. -/
def rollWindowsSpec : ChangeSpec := { name := "rollWindows", fn := fun _ => fun
  | [d1, d2, d3] => { results := [.lit (.bool true)], args := [d1, d2, d3] }
  | _ => none }
def rollWindowsRow : OpenClaim := { program := "ytcbinihjbmgkdaa", sum := "f03a018c0a72800de69b0b54a7a5b9d1e9dc2be7c745b8af6d6a87f0379e6e62", func := "freight/freightlaw3.RollWindows", spec := "rollWindows", unfollowed := true, recurses := true, apart := false }
def RollWindowsSaid : Prop := rollWindowsRow.holds Try.pinned (OpenSpec.ofChange rollWindowsSpec)

/-- ITS FALSE NEIGHBOUR: 'it returns false'. Refute it at one input. -/
def rollWindowsWrong : ChangeSpec := { name := "rollWindows", fn := fun _ => fun
  | [d1, d2, d3] => { results := [.lit (.bool false)], args := [d1, d2, d3] }
  | _ => none }
def RollWindowsWrongFalsely : Prop := rollWindowsRow.holds Try.pinned (OpenSpec.ofChange rollWindowsWrong)

/-- 'freightlaw3.RollNothing': WHATEVER THE INPUT: true; the input reads as it did. -/
def rollNothingSpec : ChangeSpec := { name := "rollNothing", fn := fun _ => fun
  | [d] => { results := [.lit (.bool true)], args := [d] }
  | _ => none }
def rollNothingRow : OpenClaim := { program := "ytcbinihjbmgkdaa", sum := "f03a018c0a72800de69b0b54a7a5b9d1e9dc2be7c745b8af6d6a87f0379e6e62", func := "freight/freightlaw3.RollNothing", spec := "rollNothing", unfollowed := true, recurses := true, apart := false }
def RollNothingSaid : Prop := rollNothingRow.holds Try.pinned (OpenSpec.ofChange rollNothingSpec)

/-- ITS FALSE NEIGHBOUR: 'it returns false'. Refute it at one input. -/
def rollNothingWrong : ChangeSpec := { name := "rollNothing", fn := fun _ => fun
  | [d] => { results := [.lit (.bool false)], args := [d] }
  | _ => none }
def RollNothingWrongFalsely : Prop := rollNothingRow.holds Try.pinned (OpenSpec.ofChange rollNothingWrong)

/-- 'freightlaw3.RollAfresh': WHATEVER THE INPUT: true; the input reads as it did. -/
def rollAfreshSpec : ChangeSpec := { name := "rollAfresh", fn := fun _ => fun
  | [d1, d2] => { results := [.lit (.bool true)], args := [d1, d2] }
  | _ => none }
def rollAfreshRow : OpenClaim := { program := "ytcbinihjbmgkdaa", sum := "f03a018c0a72800de69b0b54a7a5b9d1e9dc2be7c745b8af6d6a87f0379e6e62", func := "freight/freightlaw3.RollAfresh", spec := "rollAfresh", unfollowed := true, recurses := true, apart := false }
def RollAfreshSaid : Prop := rollAfreshRow.holds Try.pinned (OpenSpec.ofChange rollAfreshSpec)

/-- ITS FALSE NEIGHBOUR: 'it returns false'. Refute it at one input. -/
def rollAfreshWrong : ChangeSpec := { name := "rollAfresh", fn := fun _ => fun
  | [d1, d2] => { results := [.lit (.bool false)], args := [d1, d2] }
  | _ => none }
def RollAfreshWrongFalsely : Prop := rollAfreshRow.holds Try.pinned (OpenSpec.ofChange rollAfreshWrong)

/-- 'freightlaw3.RollAlong': WHATEVER THE INPUT: true; the input reads as it did. -/
def rollAlongSpec : ChangeSpec := { name := "rollAlong", fn := fun _ => fun
  | [d1, d2] => { results := [.lit (.bool true)], args := [d1, d2] }
  | _ => none }
def rollAlongRow : OpenClaim := { program := "ytcbinihjbmgkdaa", sum := "f03a018c0a72800de69b0b54a7a5b9d1e9dc2be7c745b8af6d6a87f0379e6e62", func := "freight/freightlaw3.RollAlong", spec := "rollAlong", unfollowed := true, recurses := true, apart := false }
def RollAlongSaid : Prop := rollAlongRow.holds Try.pinned (OpenSpec.ofChange rollAlongSpec)

/-- ITS FALSE NEIGHBOUR: 'it returns false'. Refute it at one input. -/
def rollAlongWrong : ChangeSpec := { name := "rollAlong", fn := fun _ => fun
  | [d1, d2] => { results := [.lit (.bool false)], args := [d1, d2] }
  | _ => none }
def RollAlongWrongFalsely : Prop := rollAlongRow.holds Try.pinned (OpenSpec.ofChange rollAlongWrong)

/-- 'freightlaw3.RollParts': WHATEVER THE INPUT: true; the input reads as it did. -/
def rollPartsSpec : ChangeSpec := { name := "rollParts", fn := fun _ => fun
  | [d1, d2] => { results := [.lit (.bool true)], args := [d1, d2] }
  | _ => none }
def rollPartsRow : OpenClaim := { program := "ytcbinihjbmgkdaa", sum := "f03a018c0a72800de69b0b54a7a5b9d1e9dc2be7c745b8af6d6a87f0379e6e62", func := "freight/freightlaw3.RollParts", spec := "rollParts", unfollowed := true, recurses := true, apart := false }
def RollPartsSaid : Prop := rollPartsRow.holds Try.pinned (OpenSpec.ofChange rollPartsSpec)

/-- ITS FALSE NEIGHBOUR: 'it returns false'. Refute it at one input. -/
def rollPartsWrong : ChangeSpec := { name := "rollParts", fn := fun _ => fun
  | [d1, d2] => { results := [.lit (.bool false)], args := [d1, d2] }
  | _ => none }
def RollPartsWrongFalsely : Prop := rollPartsRow.holds Try.pinned (OpenSpec.ofChange rollPartsWrong)

/- THE SECOND FORM. 'bulk': how many values and letters a reading holds, each counted each time it is reached (what is shared counts as often as it is met; a slice's spare places count too). A statement '..UptoSaid' is the law's where the arguments, and the package variables that the reading takes, are together of bulk at most 1048576: NARROWER than '..Said'. Prove '..Said' where nothing that the law and all that it calls make is longer than what came in: it says more and counts as full. Else prove '..UptoSaid'. A law counts once. -/
mutual
def uptoBulk {H : Type} : DataW H → Nat
  | .lit (.string bytes) => bytes.length + 1
  | .lit _ => 1
  | .nil => 1
  | .ptr d => uptoBulk d + 1
  | .slice elems spare => uptoBulkAll elems + uptoBulkAll spare + 1
  | .agg parts => uptoBulkAll parts + 1
  | .iface _ d => uptoBulk d + 1
  | .map entries => uptoBulkEntries entries + 1
  | .held _ => 1
def uptoBulkAll {H : Type} : List (DataW H) → Nat
  | [] => 0
  | d :: r => uptoBulk d + uptoBulkAll r
def uptoBulkEntries {H : Type} : List (Lit × DataW H) → Nat
  | [] => 0
  | x :: r => uptoBulkEntry x + uptoBulkEntries r
def uptoBulkEntry {H : Type} : Lit × DataW H → Nat
  | (.string bytes, d) => bytes.length + uptoBulk d + 1
  | (_, d) => uptoBulk d + 1
 end
def uptoSmall : (H : Type) → List (DataW H) → Bool := fun _ ds => decide (uptoBulkAll ds ≤ 1048576)
def OpenSpec.upto (s : _root_.Go.ChangeSpec) : _root_.Go.OpenSpec := { _root_.Go.OpenSpec.ofChange s with cond := some uptoSmall }

/-- 'freightlaw3.RollSums', WHERE WHAT IT READS IS OF BULK AT MOST 1048576: true; the input reads as it did. -/
def rollSumsUptoRow : OpenClaim := { program := "ytcbinihjbmgkdaa", sum := "f03a018c0a72800de69b0b54a7a5b9d1e9dc2be7c745b8af6d6a87f0379e6e62", func := "freight/freightlaw3.RollSums", spec := "rollSums", unfollowed := true, recurses := true, apart := false, narrowed := true }
def RollSumsUptoSaid : Prop := rollSumsUptoRow.holds Try.pinned (OpenSpec.upto rollSumsSpec)

/-- 'freightlaw3.RollMoves', WHERE WHAT IT READS IS OF BULK AT MOST 1048576: true; the input reads as it did. -/
def rollMovesUptoRow : OpenClaim := { program := "ytcbinihjbmgkdaa", sum := "f03a018c0a72800de69b0b54a7a5b9d1e9dc2be7c745b8af6d6a87f0379e6e62", func := "freight/freightlaw3.RollMoves", spec := "rollMoves", unfollowed := true, recurses := true, apart := false, narrowed := true }
def RollMovesUptoSaid : Prop := rollMovesUptoRow.holds Try.pinned (OpenSpec.upto rollMovesSpec)

/-- 'freightlaw3.RollTwo', WHERE WHAT IT READS IS OF BULK AT MOST 1048576: true; the input reads as it did. -/
def rollTwoUptoRow : OpenClaim := { program := "ytcbinihjbmgkdaa", sum := "f03a018c0a72800de69b0b54a7a5b9d1e9dc2be7c745b8af6d6a87f0379e6e62", func := "freight/freightlaw3.RollTwo", spec := "rollTwo", unfollowed := true, recurses := true, apart := false, narrowed := true }
def RollTwoUptoSaid : Prop := rollTwoUptoRow.holds Try.pinned (OpenSpec.upto rollTwoSpec)

/-- 'freightlaw3.RollWindows', WHERE WHAT IT READS IS OF BULK AT MOST 1048576: true; the input reads as it did. -/
def rollWindowsUptoRow : OpenClaim := { program := "ytcbinihjbmgkdaa", sum := "f03a018c0a72800de69b0b54a7a5b9d1e9dc2be7c745b8af6d6a87f0379e6e62", func := "freight/freightlaw3.RollWindows", spec := "rollWindows", unfollowed := true, recurses := true, apart := false, narrowed := true }
def RollWindowsUptoSaid : Prop := rollWindowsUptoRow.holds Try.pinned (OpenSpec.upto rollWindowsSpec)

/-- 'freightlaw3.RollNothing', WHERE WHAT IT READS IS OF BULK AT MOST 1048576: true; the input reads as it did. -/
def rollNothingUptoRow : OpenClaim := { program := "ytcbinihjbmgkdaa", sum := "f03a018c0a72800de69b0b54a7a5b9d1e9dc2be7c745b8af6d6a87f0379e6e62", func := "freight/freightlaw3.RollNothing", spec := "rollNothing", unfollowed := true, recurses := true, apart := false, narrowed := true }
def RollNothingUptoSaid : Prop := rollNothingUptoRow.holds Try.pinned (OpenSpec.upto rollNothingSpec)

/-- 'freightlaw3.RollAfresh', WHERE WHAT IT READS IS OF BULK AT MOST 1048576: true; the input reads as it did. -/
def rollAfreshUptoRow : OpenClaim := { program := "ytcbinihjbmgkdaa", sum := "f03a018c0a72800de69b0b54a7a5b9d1e9dc2be7c745b8af6d6a87f0379e6e62", func := "freight/freightlaw3.RollAfresh", spec := "rollAfresh", unfollowed := true, recurses := true, apart := false, narrowed := true }
def RollAfreshUptoSaid : Prop := rollAfreshUptoRow.holds Try.pinned (OpenSpec.upto rollAfreshSpec)

/-- 'freightlaw3.RollAlong', WHERE WHAT IT READS IS OF BULK AT MOST 1048576: true; the input reads as it did. -/
def rollAlongUptoRow : OpenClaim := { program := "ytcbinihjbmgkdaa", sum := "f03a018c0a72800de69b0b54a7a5b9d1e9dc2be7c745b8af6d6a87f0379e6e62", func := "freight/freightlaw3.RollAlong", spec := "rollAlong", unfollowed := true, recurses := true, apart := false, narrowed := true }
def RollAlongUptoSaid : Prop := rollAlongUptoRow.holds Try.pinned (OpenSpec.upto rollAlongSpec)

/-- 'freightlaw3.RollParts', WHERE WHAT IT READS IS OF BULK AT MOST 1048576: true; the input reads as it did. -/
def rollPartsUptoRow : OpenClaim := { program := "ytcbinihjbmgkdaa", sum := "f03a018c0a72800de69b0b54a7a5b9d1e9dc2be7c745b8af6d6a87f0379e6e62", func := "freight/freightlaw3.RollParts", spec := "rollParts", unfollowed := true, recurses := true, apart := false, narrowed := true }
def RollPartsUptoSaid : Prop := rollPartsUptoRow.holds Try.pinned (OpenSpec.upto rollPartsSpec)

end Rows
end Go.Proofs.Ytcbinihjbmgkdaa
