/-
  No cell of these rows narrows 'for every input' (looked for: loops, veiled, ifaces, maps, wideKeys, modest, calm, conditions, laid).
  DERIVED. THE GIVEN ROWS OF THIS SEAT. 10 by the template 'for every input the law returns true; each argument reads behind the call as it read before'; 0 by the template 'total and deterministic' (their statements: YtjdkeabimcajlaaTotals.lean).
  GIVEN WITH THE SEED: the statements are not yours to turn. If you find one false, say at which input.
  Laid BY PROGRAM, IN A SANDBOX (cutbox-rows.mjs): the forced cells as the released guide's own fill.sh prints them over the translation b54c6d13adbf3658… (all of the seat's roots in one cut). By AI agents, Wed Nov 11 2026. No macro, syntax, notation, axiom, sorry.
-/
import Derived.Test.YtjdkeabimcajlaaChecked
import GoSem.Claim
import GoSem.ClaimJoined
import GoSem.ClaimMapViews
import Derived.JoinedTies
import Derived.KernelRfl
namespace Go.Proofs.Ytjdkeabimcajlaa
/- THE CELL 'sum', in the pinned program and in every row, IS THE sha256 OF THE DUMP (.gsa) THAT YtjdkeabimcajlaaProg.lean LOADS. Nothing in Lean hashes anything: it is a label: what it is worth is what the hold of that sum in a sandbox is worth. -/
noncomputable def Try.pinned : Pinned := { name := "ytjdkeabimcajlaa", sum := "b54c6d13adbf36582162fc2ca711154abfd8fb7e20bc725751e859b15d4814b2", checked := Try.checked }
namespace Rows
def none {H : Type} : Left H := { results := [], args := [] }

/-- 'freightlaw8.TableEncodes': WHATEVER THE INPUT: true; the input reads as it did. -/
def tableEncodesSpec : ChangeSpec := { name := "tableEncodes", fn := fun _ => fun
  | [d] => { results := [.lit (.bool true)], args := [d] }
  | _ => none }
def tableEncodesRow : OpenClaim := { program := "ytjdkeabimcajlaa", sum := "b54c6d13adbf36582162fc2ca711154abfd8fb7e20bc725751e859b15d4814b2", func := "freight/freightlaw8.TableEncodes", spec := "tableEncodes", inPlace := ["internal/bytealg.Compare", "slices.overlaps[freight/api.Result]"], unfollowed := true, recurses := true, apart := false }
def TableEncodesSaid : Prop := tableEncodesRow.holds Try.pinned (OpenSpec.ofChange tableEncodesSpec)

/-- ITS FALSE NEIGHBOUR: 'it returns false'. Refute it at one input. -/
def tableEncodesWrong : ChangeSpec := { name := "tableEncodes", fn := fun _ => fun
  | [d] => { results := [.lit (.bool false)], args := [d] }
  | _ => none }
def TableEncodesWrongFalsely : Prop := tableEncodesRow.holds Try.pinned (OpenSpec.ofChange tableEncodesWrong)

/-- 'freightlaw8.TableWiths': WHATEVER THE INPUT: true; the input reads as it did. -/
def tableWithsSpec : ChangeSpec := { name := "tableWiths", fn := fun _ => fun
  | [d1, d2] => { results := [.lit (.bool true)], args := [d1, d2] }
  | _ => none }
def tableWithsRow : OpenClaim := { program := "ytjdkeabimcajlaa", sum := "b54c6d13adbf36582162fc2ca711154abfd8fb7e20bc725751e859b15d4814b2", func := "freight/freightlaw8.TableWiths", spec := "tableWiths", inPlace := ["internal/bytealg.Compare", "slices.overlaps[freight/api.Result]"], unfollowed := true, recurses := true, apart := false }
def TableWithsSaid : Prop := tableWithsRow.holds Try.pinned (OpenSpec.ofChange tableWithsSpec)

/-- ITS FALSE NEIGHBOUR: 'it returns false'. Refute it at one input. -/
def tableWithsWrong : ChangeSpec := { name := "tableWiths", fn := fun _ => fun
  | [d1, d2] => { results := [.lit (.bool false)], args := [d1, d2] }
  | _ => none }
def TableWithsWrongFalsely : Prop := tableWithsRow.holds Try.pinned (OpenSpec.ofChange tableWithsWrong)

/-- 'freightlaw8.TableJoins': WHATEVER THE INPUT: true; the input reads as it did. -/
def tableJoinsSpec : ChangeSpec := { name := "tableJoins", fn := fun _ => fun
  | [d1, d2, d3] => { results := [.lit (.bool true)], args := [d1, d2, d3] }
  | _ => none }
def tableJoinsRow : OpenClaim := { program := "ytjdkeabimcajlaa", sum := "b54c6d13adbf36582162fc2ca711154abfd8fb7e20bc725751e859b15d4814b2", func := "freight/freightlaw8.TableJoins", spec := "tableJoins", inPlace := ["internal/bytealg.Compare", "slices.overlaps[freight/api.Result]"], unfollowed := true, recurses := true, apart := false }
def TableJoinsSaid : Prop := tableJoinsRow.holds Try.pinned (OpenSpec.ofChange tableJoinsSpec)

/-- ITS FALSE NEIGHBOUR: 'it returns false'. Refute it at one input. -/
def tableJoinsWrong : ChangeSpec := { name := "tableJoins", fn := fun _ => fun
  | [d1, d2, d3] => { results := [.lit (.bool false)], args := [d1, d2, d3] }
  | _ => none }
def TableJoinsWrongFalsely : Prop := tableJoinsRow.holds Try.pinned (OpenSpec.ofChange tableJoinsWrong)

/-- 'freightlaw8.TableUnion': WHATEVER THE INPUT: true; the input reads as it did. -/
def tableUnionSpec : ChangeSpec := { name := "tableUnion", fn := fun _ => fun
  | [d1, d2] => { results := [.lit (.bool true)], args := [d1, d2] }
  | _ => none }
def tableUnionRow : OpenClaim := { program := "ytjdkeabimcajlaa", sum := "b54c6d13adbf36582162fc2ca711154abfd8fb7e20bc725751e859b15d4814b2", func := "freight/freightlaw8.TableUnion", spec := "tableUnion", inPlace := ["internal/bytealg.Compare", "slices.overlaps[freight/api.Result]"], unfollowed := true, recurses := true, apart := false }
def TableUnionSaid : Prop := tableUnionRow.holds Try.pinned (OpenSpec.ofChange tableUnionSpec)

/-- ITS FALSE NEIGHBOUR: 'it returns false'. Refute it at one input. -/
def tableUnionWrong : ChangeSpec := { name := "tableUnion", fn := fun _ => fun
  | [d1, d2] => { results := [.lit (.bool false)], args := [d1, d2] }
  | _ => none }
def TableUnionWrongFalsely : Prop := tableUnionRow.holds Try.pinned (OpenSpec.ofChange tableUnionWrong)

/-- 'freightlaw8.TableFinds': WHATEVER THE INPUT: true; the input reads as it did. -/
def tableFindsSpec : ChangeSpec := { name := "tableFinds", fn := fun _ => fun
  | [d1, d2] => { results := [.lit (.bool true)], args := [d1, d2] }
  | _ => none }
def tableFindsRow : OpenClaim := { program := "ytjdkeabimcajlaa", sum := "b54c6d13adbf36582162fc2ca711154abfd8fb7e20bc725751e859b15d4814b2", func := "freight/freightlaw8.TableFinds", spec := "tableFinds", inPlace := ["internal/bytealg.Compare", "slices.overlaps[freight/api.Result]"], unfollowed := true, recurses := true, apart := false }
def TableFindsSaid : Prop := tableFindsRow.holds Try.pinned (OpenSpec.ofChange tableFindsSpec)

/-- ITS FALSE NEIGHBOUR: 'it returns false'. Refute it at one input. -/
def tableFindsWrong : ChangeSpec := { name := "tableFinds", fn := fun _ => fun
  | [d1, d2] => { results := [.lit (.bool false)], args := [d1, d2] }
  | _ => none }
def TableFindsWrongFalsely : Prop := tableFindsRow.holds Try.pinned (OpenSpec.ofChange tableFindsWrong)

/-- 'freightlaw8.TableSets': WHATEVER THE INPUT: true; the input reads as it did. -/
def tableSetsSpec : ChangeSpec := { name := "tableSets", fn := fun _ => fun
  | [d1, d2] => { results := [.lit (.bool true)], args := [d1, d2] }
  | _ => none }
def tableSetsRow : OpenClaim := { program := "ytjdkeabimcajlaa", sum := "b54c6d13adbf36582162fc2ca711154abfd8fb7e20bc725751e859b15d4814b2", func := "freight/freightlaw8.TableSets", spec := "tableSets", inPlace := ["internal/bytealg.Compare", "slices.overlaps[freight/api.Result]"], unfollowed := true, recurses := true, apart := false }
def TableSetsSaid : Prop := tableSetsRow.holds Try.pinned (OpenSpec.ofChange tableSetsSpec)

/-- ITS FALSE NEIGHBOUR: 'it returns false'. Refute it at one input. -/
def tableSetsWrong : ChangeSpec := { name := "tableSets", fn := fun _ => fun
  | [d1, d2] => { results := [.lit (.bool false)], args := [d1, d2] }
  | _ => none }
def TableSetsWrongFalsely : Prop := tableSetsRow.holds Try.pinned (OpenSpec.ofChange tableSetsWrong)

/-- 'freightlaw8.TableParses': WHATEVER THE INPUT: true; the input reads as it did. -/
def tableParsesSpec : ChangeSpec := { name := "tableParses", fn := fun _ => fun
  | [d] => { results := [.lit (.bool true)], args := [d] }
  | _ => none }
def tableParsesRow : OpenClaim := { program := "ytjdkeabimcajlaa", sum := "b54c6d13adbf36582162fc2ca711154abfd8fb7e20bc725751e859b15d4814b2", func := "freight/freightlaw8.TableParses", spec := "tableParses", inPlace := ["internal/bytealg.Compare", "slices.overlaps[freight/api.Result]"], unfollowed := true, recurses := true, apart := false }
def TableParsesSaid : Prop := tableParsesRow.holds Try.pinned (OpenSpec.ofChange tableParsesSpec)

/-- ITS FALSE NEIGHBOUR: 'it returns false'. Refute it at one input. -/
def tableParsesWrong : ChangeSpec := { name := "tableParses", fn := fun _ => fun
  | [d] => { results := [.lit (.bool false)], args := [d] }
  | _ => none }
def TableParsesWrongFalsely : Prop := tableParsesRow.holds Try.pinned (OpenSpec.ofChange tableParsesWrong)

/-- 'freightlaw8.TableBack': WHATEVER THE INPUT: true; the input reads as it did. -/
def tableBackSpec : ChangeSpec := { name := "tableBack", fn := fun _ => fun
  | [d] => { results := [.lit (.bool true)], args := [d] }
  | _ => none }
def tableBackRow : OpenClaim := { program := "ytjdkeabimcajlaa", sum := "b54c6d13adbf36582162fc2ca711154abfd8fb7e20bc725751e859b15d4814b2", func := "freight/freightlaw8.TableBack", spec := "tableBack", inPlace := ["internal/bytealg.Compare", "slices.overlaps[freight/api.Result]"], unfollowed := true, recurses := true, apart := false }
def TableBackSaid : Prop := tableBackRow.holds Try.pinned (OpenSpec.ofChange tableBackSpec)

/-- ITS FALSE NEIGHBOUR: 'it returns false'. Refute it at one input. -/
def tableBackWrong : ChangeSpec := { name := "tableBack", fn := fun _ => fun
  | [d] => { results := [.lit (.bool false)], args := [d] }
  | _ => none }
def TableBackWrongFalsely : Prop := tableBackRow.holds Try.pinned (OpenSpec.ofChange tableBackWrong)

/-- 'freightlaw8.TableOneForm': WHATEVER THE INPUT: true; the input reads as it did. -/
def tableOneFormSpec : ChangeSpec := { name := "tableOneForm", fn := fun _ => fun
  | [d] => { results := [.lit (.bool true)], args := [d] }
  | _ => none }
def tableOneFormRow : OpenClaim := { program := "ytjdkeabimcajlaa", sum := "b54c6d13adbf36582162fc2ca711154abfd8fb7e20bc725751e859b15d4814b2", func := "freight/freightlaw8.TableOneForm", spec := "tableOneForm", inPlace := ["internal/bytealg.Compare", "slices.overlaps[freight/api.Result]"], unfollowed := true, recurses := true, apart := false }
def TableOneFormSaid : Prop := tableOneFormRow.holds Try.pinned (OpenSpec.ofChange tableOneFormSpec)

/-- ITS FALSE NEIGHBOUR: 'it returns false'. Refute it at one input. -/
def tableOneFormWrong : ChangeSpec := { name := "tableOneForm", fn := fun _ => fun
  | [d] => { results := [.lit (.bool false)], args := [d] }
  | _ => none }
def TableOneFormWrongFalsely : Prop := tableOneFormRow.holds Try.pinned (OpenSpec.ofChange tableOneFormWrong)

/-- 'freightlaw8.TableIsNew': WHATEVER THE INPUT: true; the input reads as it did. -/
def tableIsNewSpec : ChangeSpec := { name := "tableIsNew", fn := fun _ => fun
  | [d1, d2, d3] => { results := [.lit (.bool true)], args := [d1, d2, d3] }
  | _ => none }
def tableIsNewRow : OpenClaim := { program := "ytjdkeabimcajlaa", sum := "b54c6d13adbf36582162fc2ca711154abfd8fb7e20bc725751e859b15d4814b2", func := "freight/freightlaw8.TableIsNew", spec := "tableIsNew", inPlace := ["internal/bytealg.Compare", "slices.overlaps[freight/api.Result]"], unfollowed := true, recurses := true, apart := false }
def TableIsNewSaid : Prop := tableIsNewRow.holds Try.pinned (OpenSpec.ofChange tableIsNewSpec)

/-- ITS FALSE NEIGHBOUR: 'it returns false'. Refute it at one input. -/
def tableIsNewWrong : ChangeSpec := { name := "tableIsNew", fn := fun _ => fun
  | [d1, d2, d3] => { results := [.lit (.bool false)], args := [d1, d2, d3] }
  | _ => none }
def TableIsNewWrongFalsely : Prop := tableIsNewRow.holds Try.pinned (OpenSpec.ofChange tableIsNewWrong)

/- THE SECOND FORM. 'bulk': how many values and letters a reading holds, each counted each time it is reached (what is shared counts as often as it is met; a slice's spare places count too). A statement '..UptoSaid' is the law's where the arguments, and the package variables that the reading takes, are together of bulk at most 1048576: NARROWER than '..Said'. Prove '..Said' where nothing that the law and all that it calls make is longer than what came in: it says more and counts as full. Else prove '..UptoSaid'. A law counts once. -/
mutual
def uptoBulk {H : Type} : DataW H → Nat
  | .lit (.string bytes) => bytes.length + 1
  | .lit _ => 1
  | .nil => 1
  | .ptr d => uptoBulk d + 1
  | .slice elems spare => uptoBulkAll elems + uptoBulkAll spare + 1
  | .agg parts => uptoBulkAll parts + 1
  | .iface _ d => uptoBulk d + 1
  | .map entries => uptoBulkEntries entries + 1
  | .held _ => 1
def uptoBulkAll {H : Type} : List (DataW H) → Nat
  | [] => 0
  | d :: r => uptoBulk d + uptoBulkAll r
def uptoBulkEntries {H : Type} : List (Lit × DataW H) → Nat
  | [] => 0
  | x :: r => uptoBulkEntry x + uptoBulkEntries r
def uptoBulkEntry {H : Type} : Lit × DataW H → Nat
  | (.string bytes, d) => bytes.length + uptoBulk d + 1
  | (_, d) => uptoBulk d + 1
 end
def uptoSmall : (H : Type) → List (DataW H) → Bool := fun _ ds => decide (uptoBulkAll ds ≤ 1048576)
def OpenSpec.upto (s : _root_.Go.ChangeSpec) : _root_.Go.OpenSpec := { _root_.Go.OpenSpec.ofChange s with cond := some uptoSmall }

/-- 'freightlaw8.TableEncodes', WHERE WHAT IT READS IS OF BULK AT MOST 1048576: true; the input reads as it did. -/
def tableEncodesUptoRow : OpenClaim := { program := "ytjdkeabimcajlaa", sum := "b54c6d13adbf36582162fc2ca711154abfd8fb7e20bc725751e859b15d4814b2", func := "freight/freightlaw8.TableEncodes", spec := "tableEncodes", inPlace := ["internal/bytealg.Compare", "slices.overlaps[freight/api.Result]"], unfollowed := true, recurses := true, apart := false, narrowed := true }
def TableEncodesUptoSaid : Prop := tableEncodesUptoRow.holds Try.pinned (OpenSpec.upto tableEncodesSpec)

/-- 'freightlaw8.TableWiths', WHERE WHAT IT READS IS OF BULK AT MOST 1048576: true; the input reads as it did. -/
def tableWithsUptoRow : OpenClaim := { program := "ytjdkeabimcajlaa", sum := "b54c6d13adbf36582162fc2ca711154abfd8fb7e20bc725751e859b15d4814b2", func := "freight/freightlaw8.TableWiths", spec := "tableWiths", inPlace := ["internal/bytealg.Compare", "slices.overlaps[freight/api.Result]"], unfollowed := true, recurses := true, apart := false, narrowed := true }
def TableWithsUptoSaid : Prop := tableWithsUptoRow.holds Try.pinned (OpenSpec.upto tableWithsSpec)

/-- 'freightlaw8.TableJoins', WHERE WHAT IT READS IS OF BULK AT MOST 1048576: true; the input reads as it did. -/
def tableJoinsUptoRow : OpenClaim := { program := "ytjdkeabimcajlaa", sum := "b54c6d13adbf36582162fc2ca711154abfd8fb7e20bc725751e859b15d4814b2", func := "freight/freightlaw8.TableJoins", spec := "tableJoins", inPlace := ["internal/bytealg.Compare", "slices.overlaps[freight/api.Result]"], unfollowed := true, recurses := true, apart := false, narrowed := true }
def TableJoinsUptoSaid : Prop := tableJoinsUptoRow.holds Try.pinned (OpenSpec.upto tableJoinsSpec)

/-- 'freightlaw8.TableUnion', WHERE WHAT IT READS IS OF BULK AT MOST 1048576: true; the input reads as it did. -/
def tableUnionUptoRow : OpenClaim := { program := "ytjdkeabimcajlaa", sum := "b54c6d13adbf36582162fc2ca711154abfd8fb7e20bc725751e859b15d4814b2", func := "freight/freightlaw8.TableUnion", spec := "tableUnion", inPlace := ["internal/bytealg.Compare", "slices.overlaps[freight/api.Result]"], unfollowed := true, recurses := true, apart := false, narrowed := true }
def TableUnionUptoSaid : Prop := tableUnionUptoRow.holds Try.pinned (OpenSpec.upto tableUnionSpec)

/-- 'freightlaw8.TableFinds', WHERE WHAT IT READS IS OF BULK AT MOST 1048576: true; the input reads as it did. -/
def tableFindsUptoRow : OpenClaim := { program := "ytjdkeabimcajlaa", sum := "b54c6d13adbf36582162fc2ca711154abfd8fb7e20bc725751e859b15d4814b2", func := "freight/freightlaw8.TableFinds", spec := "tableFinds", inPlace := ["internal/bytealg.Compare", "slices.overlaps[freight/api.Result]"], unfollowed := true, recurses := true, apart := false, narrowed := true }
def TableFindsUptoSaid : Prop := tableFindsUptoRow.holds Try.pinned (OpenSpec.upto tableFindsSpec)

/-- 'freightlaw8.TableSets', WHERE WHAT IT READS IS OF BULK AT MOST 1048576: true; the input reads as it did. -/
def tableSetsUptoRow : OpenClaim := { program := "ytjdkeabimcajlaa", sum := "b54c6d13adbf36582162fc2ca711154abfd8fb7e20bc725751e859b15d4814b2", func := "freight/freightlaw8.TableSets", spec := "tableSets", inPlace := ["internal/bytealg.Compare", "slices.overlaps[freight/api.Result]"], unfollowed := true, recurses := true, apart := false, narrowed := true }
def TableSetsUptoSaid : Prop := tableSetsUptoRow.holds Try.pinned (OpenSpec.upto tableSetsSpec)

/-- 'freightlaw8.TableParses', WHERE WHAT IT READS IS OF BULK AT MOST 1048576: true; the input reads as it did. -/
def tableParsesUptoRow : OpenClaim := { program := "ytjdkeabimcajlaa", sum := "b54c6d13adbf36582162fc2ca711154abfd8fb7e20bc725751e859b15d4814b2", func := "freight/freightlaw8.TableParses", spec := "tableParses", inPlace := ["internal/bytealg.Compare", "slices.overlaps[freight/api.Result]"], unfollowed := true, recurses := true, apart := false, narrowed := true }
def TableParsesUptoSaid : Prop := tableParsesUptoRow.holds Try.pinned (OpenSpec.upto tableParsesSpec)

/-- 'freightlaw8.TableBack', WHERE WHAT IT READS IS OF BULK AT MOST 1048576: true; the input reads as it did. -/
def tableBackUptoRow : OpenClaim := { program := "ytjdkeabimcajlaa", sum := "b54c6d13adbf36582162fc2ca711154abfd8fb7e20bc725751e859b15d4814b2", func := "freight/freightlaw8.TableBack", spec := "tableBack", inPlace := ["internal/bytealg.Compare", "slices.overlaps[freight/api.Result]"], unfollowed := true, recurses := true, apart := false, narrowed := true }
def TableBackUptoSaid : Prop := tableBackUptoRow.holds Try.pinned (OpenSpec.upto tableBackSpec)

/-- 'freightlaw8.TableOneForm', WHERE WHAT IT READS IS OF BULK AT MOST 1048576: true; the input reads as it did. -/
def tableOneFormUptoRow : OpenClaim := { program := "ytjdkeabimcajlaa", sum := "b54c6d13adbf36582162fc2ca711154abfd8fb7e20bc725751e859b15d4814b2", func := "freight/freightlaw8.TableOneForm", spec := "tableOneForm", inPlace := ["internal/bytealg.Compare", "slices.overlaps[freight/api.Result]"], unfollowed := true, recurses := true, apart := false, narrowed := true }
def TableOneFormUptoSaid : Prop := tableOneFormUptoRow.holds Try.pinned (OpenSpec.upto tableOneFormSpec)

/-- 'freightlaw8.TableIsNew', WHERE WHAT IT READS IS OF BULK AT MOST 1048576: true; the input reads as it did. -/
def tableIsNewUptoRow : OpenClaim := { program := "ytjdkeabimcajlaa", sum := "b54c6d13adbf36582162fc2ca711154abfd8fb7e20bc725751e859b15d4814b2", func := "freight/freightlaw8.TableIsNew", spec := "tableIsNew", inPlace := ["internal/bytealg.Compare", "slices.overlaps[freight/api.Result]"], unfollowed := true, recurses := true, apart := false, narrowed := true }
def TableIsNewUptoSaid : Prop := tableIsNewUptoRow.holds Try.pinned (OpenSpec.upto tableIsNewSpec)

end Rows
end Go.Proofs.Ytjdkeabimcajlaa
