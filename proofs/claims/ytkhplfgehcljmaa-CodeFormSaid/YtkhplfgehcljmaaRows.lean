/-
  No cell of these rows narrows 'for every input' (looked for: loops, veiled, ifaces, maps, wideKeys, modest, calm, conditions, laid).
  DERIVED. THE GIVEN ROWS OF THIS SEAT. 10 by the template 'for every input the law returns true; each argument reads behind the call as it read before'; 0 by the template 'total and deterministic' (their statements: YtkhplfgehcljmaaTotals.lean).
  GIVEN WITH THE SEED: the statements are not yours to turn. If you find one false, say at which input.
  Laid BY PROGRAM, IN A SANDBOX (cutbox-rows.mjs): the forced cells as the released guide's own fill.sh prints them over the translation c9ad35339ec9a8d9… (all of the seat's roots in one cut). By AI agents, Wed Nov 11 2026. No macro, syntax, notation, axiom, sorry.
-/
import Derived.Test.YtkhplfgehcljmaaChecked
import GoSem.Claim
import GoSem.ClaimJoined
import GoSem.ClaimMapViews
import Derived.JoinedTies
import Derived.KernelRfl
namespace Go.Proofs.Ytkhplfgehcljmaa
/- THE CELL 'sum', in the pinned program and in every row, IS THE sha256 OF THE DUMP (.gsa) THAT YtkhplfgehcljmaaProg.lean LOADS. Nothing in Lean hashes anything: it is a label: what it is worth is what the hold of that sum in a sandbox is worth. -/
noncomputable def Try.pinned : Pinned := { name := "ytkhplfgehcljmaa", sum := "c9ad35339ec9a8d9808bf8881654c51e63c6430ec901cf1ed9a2b505631f2566", checked := Try.checked }
namespace Rows
def none {H : Type} : Left H := { results := [], args := [] }

/-- 'freightlaw1.CodeSums': WHATEVER THE INPUT: true; the input reads as it did. -/
def codeSumsSpec : ChangeSpec := { name := "codeSums", fn := fun _ => fun
  | [d] => { results := [.lit (.bool true)], args := [d] }
  | _ => none }
def codeSumsRow : OpenClaim := { program := "ytkhplfgehcljmaa", sum := "c9ad35339ec9a8d9808bf8881654c51e63c6430ec901cf1ed9a2b505631f2566", func := "freight/freightlaw1.CodeSums", spec := "codeSums", apart := false }
def CodeSumsSaid : Prop := codeSumsRow.holds Try.pinned (OpenSpec.ofChange codeSumsSpec)

/-- ITS FALSE NEIGHBOUR: 'it returns false'. Refute it at one input. -/
def codeSumsWrong : ChangeSpec := { name := "codeSums", fn := fun _ => fun
  | [d] => { results := [.lit (.bool false)], args := [d] }
  | _ => none }
def CodeSumsWrongFalsely : Prop := codeSumsRow.holds Try.pinned (OpenSpec.ofChange codeSumsWrong)

/-- 'freightlaw1.CodeWrites': WHATEVER THE INPUT: true; the input reads as it did. -/
def codeWritesSpec : ChangeSpec := { name := "codeWrites", fn := fun _ => fun
  | [d] => { results := [.lit (.bool true)], args := [d] }
  | _ => none }
def codeWritesRow : OpenClaim := { program := "ytkhplfgehcljmaa", sum := "c9ad35339ec9a8d9808bf8881654c51e63c6430ec901cf1ed9a2b505631f2566", func := "freight/freightlaw1.CodeWrites", spec := "codeWrites", apart := false }
def CodeWritesSaid : Prop := codeWritesRow.holds Try.pinned (OpenSpec.ofChange codeWritesSpec)

/-- ITS FALSE NEIGHBOUR: 'it returns false'. Refute it at one input. -/
def codeWritesWrong : ChangeSpec := { name := "codeWrites", fn := fun _ => fun
  | [d] => { results := [.lit (.bool false)], args := [d] }
  | _ => none }
def CodeWritesWrongFalsely : Prop := codeWritesRow.holds Try.pinned (OpenSpec.ofChange codeWritesWrong)

/-- 'freightlaw1.CodeTwo': WHATEVER THE INPUT: true; the input reads as it did. -/
def codeTwoSpec : ChangeSpec := { name := "codeTwo", fn := fun _ => fun
  | [d] => { results := [.lit (.bool true)], args := [d] }
  | _ => none }
def codeTwoRow : OpenClaim := { program := "ytkhplfgehcljmaa", sum := "c9ad35339ec9a8d9808bf8881654c51e63c6430ec901cf1ed9a2b505631f2566", func := "freight/freightlaw1.CodeTwo", spec := "codeTwo", apart := false }
def CodeTwoSaid : Prop := codeTwoRow.holds Try.pinned (OpenSpec.ofChange codeTwoSpec)

/-- ITS FALSE NEIGHBOUR: 'it returns false'. Refute it at one input. -/
def codeTwoWrong : ChangeSpec := { name := "codeTwo", fn := fun _ => fun
  | [d] => { results := [.lit (.bool false)], args := [d] }
  | _ => none }
def CodeTwoWrongFalsely : Prop := codeTwoRow.holds Try.pinned (OpenSpec.ofChange codeTwoWrong)

/-- 'freightlaw1.CodeReads': WHATEVER THE INPUT: true; the input reads as it did. -/
def codeReadsSpec : ChangeSpec := { name := "codeReads", fn := fun _ => fun
  | [d1, d2] => { results := [.lit (.bool true)], args := [d1, d2] }
  | _ => none }
def codeReadsRow : OpenClaim := { program := "ytkhplfgehcljmaa", sum := "c9ad35339ec9a8d9808bf8881654c51e63c6430ec901cf1ed9a2b505631f2566", func := "freight/freightlaw1.CodeReads", spec := "codeReads", apart := false }
def CodeReadsSaid : Prop := codeReadsRow.holds Try.pinned (OpenSpec.ofChange codeReadsSpec)

/-- ITS FALSE NEIGHBOUR: 'it returns false'. Refute it at one input. -/
def codeReadsWrong : ChangeSpec := { name := "codeReads", fn := fun _ => fun
  | [d1, d2] => { results := [.lit (.bool false)], args := [d1, d2] }
  | _ => none }
def CodeReadsWrongFalsely : Prop := codeReadsRow.holds Try.pinned (OpenSpec.ofChange codeReadsWrong)

/-- 'freightlaw1.CodeBeside': WHATEVER THE INPUT: true; the input reads as it did. -/
def codeBesideSpec : ChangeSpec := { name := "codeBeside", fn := fun _ => fun
  | [d1, d2, d3] => { results := [.lit (.bool true)], args := [d1, d2, d3] }
  | _ => none }
def codeBesideRow : OpenClaim := { program := "ytkhplfgehcljmaa", sum := "c9ad35339ec9a8d9808bf8881654c51e63c6430ec901cf1ed9a2b505631f2566", func := "freight/freightlaw1.CodeBeside", spec := "codeBeside", apart := false }
def CodeBesideSaid : Prop := codeBesideRow.holds Try.pinned (OpenSpec.ofChange codeBesideSpec)

/-- ITS FALSE NEIGHBOUR: 'it returns false'. Refute it at one input. -/
def codeBesideWrong : ChangeSpec := { name := "codeBeside", fn := fun _ => fun
  | [d1, d2, d3] => { results := [.lit (.bool false)], args := [d1, d2, d3] }
  | _ => none }
def CodeBesideWrongFalsely : Prop := codeBesideRow.holds Try.pinned (OpenSpec.ofChange codeBesideWrong)

/-- 'freightlaw1.CodeNothing': WHATEVER THE INPUT: true; the input reads as it did. -/
def codeNothingSpec : ChangeSpec := { name := "codeNothing", fn := fun _ => fun
  | [d] => { results := [.lit (.bool true)], args := [d] }
  | _ => none }
def codeNothingRow : OpenClaim := { program := "ytkhplfgehcljmaa", sum := "c9ad35339ec9a8d9808bf8881654c51e63c6430ec901cf1ed9a2b505631f2566", func := "freight/freightlaw1.CodeNothing", spec := "codeNothing", apart := false }
def CodeNothingSaid : Prop := codeNothingRow.holds Try.pinned (OpenSpec.ofChange codeNothingSpec)

/-- ITS FALSE NEIGHBOUR: 'it returns false'. Refute it at one input. -/
def codeNothingWrong : ChangeSpec := { name := "codeNothing", fn := fun _ => fun
  | [d] => { results := [.lit (.bool false)], args := [d] }
  | _ => none }
def CodeNothingWrongFalsely : Prop := codeNothingRow.holds Try.pinned (OpenSpec.ofChange codeNothingWrong)

/-- 'freightlaw1.CodeBack': WHATEVER THE INPUT: true; the input reads as it did. -/
def codeBackSpec : ChangeSpec := { name := "codeBack", fn := fun _ => fun
  | [d1, d2] => { results := [.lit (.bool true)], args := [d1, d2] }
  | _ => none }
def codeBackRow : OpenClaim := { program := "ytkhplfgehcljmaa", sum := "c9ad35339ec9a8d9808bf8881654c51e63c6430ec901cf1ed9a2b505631f2566", func := "freight/freightlaw1.CodeBack", spec := "codeBack", apart := false }
def CodeBackSaid : Prop := codeBackRow.holds Try.pinned (OpenSpec.ofChange codeBackSpec)

/-- ITS FALSE NEIGHBOUR: 'it returns false'. Refute it at one input. -/
def codeBackWrong : ChangeSpec := { name := "codeBack", fn := fun _ => fun
  | [d1, d2] => { results := [.lit (.bool false)], args := [d1, d2] }
  | _ => none }
def CodeBackWrongFalsely : Prop := codeBackRow.holds Try.pinned (OpenSpec.ofChange codeBackWrong)

/-- 'freightlaw1.CodeForm': WHATEVER THE INPUT: true; the input reads as it did. -/
def codeFormSpec : ChangeSpec := { name := "codeForm", fn := fun _ => fun
  | [d1, d2] => { results := [.lit (.bool true)], args := [d1, d2] }
  | _ => none }
def codeFormRow : OpenClaim := { program := "ytkhplfgehcljmaa", sum := "c9ad35339ec9a8d9808bf8881654c51e63c6430ec901cf1ed9a2b505631f2566", func := "freight/freightlaw1.CodeForm", spec := "codeForm", apart := false }
def CodeFormSaid : Prop := codeFormRow.holds Try.pinned (OpenSpec.ofChange codeFormSpec)

/-- ITS FALSE NEIGHBOUR: 'it returns false'. Refute it at one input. -/
def codeFormWrong : ChangeSpec := { name := "codeForm", fn := fun _ => fun
  | [d1, d2] => { results := [.lit (.bool false)], args := [d1, d2] }
  | _ => none }
def CodeFormWrongFalsely : Prop := codeFormRow.holds Try.pinned (OpenSpec.ofChange codeFormWrong)

/-- 'freightlaw1.CodeTells': WHATEVER THE INPUT: true; the input reads as it did. -/
def codeTellsSpec : ChangeSpec := { name := "codeTells", fn := fun _ => fun
  | [d1, d2, d3] => { results := [.lit (.bool true)], args := [d1, d2, d3] }
  | _ => none }
def codeTellsRow : OpenClaim := { program := "ytkhplfgehcljmaa", sum := "c9ad35339ec9a8d9808bf8881654c51e63c6430ec901cf1ed9a2b505631f2566", func := "freight/freightlaw1.CodeTells", spec := "codeTells", apart := false }
def CodeTellsSaid : Prop := codeTellsRow.holds Try.pinned (OpenSpec.ofChange codeTellsSpec)

/-- ITS FALSE NEIGHBOUR: 'it returns false'. Refute it at one input. -/
def codeTellsWrong : ChangeSpec := { name := "codeTells", fn := fun _ => fun
  | [d1, d2, d3] => { results := [.lit (.bool false)], args := [d1, d2, d3] }
  | _ => none }
def CodeTellsWrongFalsely : Prop := codeTellsRow.holds Try.pinned (OpenSpec.ofChange codeTellsWrong)

/-- 'freightlaw1.CodeOwn': WHATEVER THE INPUT: true; the input reads as it did. -/
def codeOwnSpec : ChangeSpec := { name := "codeOwn", fn := fun _ => fun
  | [d1, d2] => { results := [.lit (.bool true)], args := [d1, d2] }
  | _ => none }
def codeOwnRow : OpenClaim := { program := "ytkhplfgehcljmaa", sum := "c9ad35339ec9a8d9808bf8881654c51e63c6430ec901cf1ed9a2b505631f2566", func := "freight/freightlaw1.CodeOwn", spec := "codeOwn", apart := false }
def CodeOwnSaid : Prop := codeOwnRow.holds Try.pinned (OpenSpec.ofChange codeOwnSpec)

/-- ITS FALSE NEIGHBOUR: 'it returns false'. Refute it at one input. -/
def codeOwnWrong : ChangeSpec := { name := "codeOwn", fn := fun _ => fun
  | [d1, d2] => { results := [.lit (.bool false)], args := [d1, d2] }
  | _ => none }
def CodeOwnWrongFalsely : Prop := codeOwnRow.holds Try.pinned (OpenSpec.ofChange codeOwnWrong)

/- THE SECOND FORM. 'bulk': how many values and letters a reading holds, each counted each time it is reached (what is shared counts as often as it is met; a slice's spare places count too). A statement '..UptoSaid' is the law's where the arguments, and the package variables that the reading takes, are together of bulk at most 1048576: NARROWER than '..Said'. Prove '..Said' where nothing that the law and all that it calls make is longer than what came in: it says more and counts as full. Else prove '..UptoSaid'. A law counts once. -/
mutual
def uptoBulk {H : Type} : DataW H → Nat
  | .lit (.string bytes) => bytes.length + 1
  | .lit _ => 1
  | .nil => 1
  | .ptr d => uptoBulk d + 1
  | .slice elems spare => uptoBulkAll elems + uptoBulkAll spare + 1
  | .agg parts => uptoBulkAll parts + 1
  | .iface _ d => uptoBulk d + 1
  | .map entries => uptoBulkEntries entries + 1
  | .held _ => 1
def uptoBulkAll {H : Type} : List (DataW H) → Nat
  | [] => 0
  | d :: r => uptoBulk d + uptoBulkAll r
def uptoBulkEntries {H : Type} : List (Lit × DataW H) → Nat
  | [] => 0
  | x :: r => uptoBulkEntry x + uptoBulkEntries r
def uptoBulkEntry {H : Type} : Lit × DataW H → Nat
  | (.string bytes, d) => bytes.length + uptoBulk d + 1
  | (_, d) => uptoBulk d + 1
 end
def uptoSmall : (H : Type) → List (DataW H) → Bool := fun _ ds => decide (uptoBulkAll ds ≤ 1048576)
def OpenSpec.upto (s : _root_.Go.ChangeSpec) : _root_.Go.OpenSpec := { _root_.Go.OpenSpec.ofChange s with cond := some uptoSmall }

/-- 'freightlaw1.CodeSums', WHERE WHAT IT READS IS OF BULK AT MOST 1048576: true; the input reads as it did. -/
def codeSumsUptoRow : OpenClaim := { program := "ytkhplfgehcljmaa", sum := "c9ad35339ec9a8d9808bf8881654c51e63c6430ec901cf1ed9a2b505631f2566", func := "freight/freightlaw1.CodeSums", spec := "codeSums", apart := false, narrowed := true }
def CodeSumsUptoSaid : Prop := codeSumsUptoRow.holds Try.pinned (OpenSpec.upto codeSumsSpec)

/-- 'freightlaw1.CodeWrites', WHERE WHAT IT READS IS OF BULK AT MOST 1048576: true; the input reads as it did. -/
def codeWritesUptoRow : OpenClaim := { program := "ytkhplfgehcljmaa", sum := "c9ad35339ec9a8d9808bf8881654c51e63c6430ec901cf1ed9a2b505631f2566", func := "freight/freightlaw1.CodeWrites", spec := "codeWrites", apart := false, narrowed := true }
def CodeWritesUptoSaid : Prop := codeWritesUptoRow.holds Try.pinned (OpenSpec.upto codeWritesSpec)

/-- 'freightlaw1.CodeTwo', WHERE WHAT IT READS IS OF BULK AT MOST 1048576: true; the input reads as it did. -/
def codeTwoUptoRow : OpenClaim := { program := "ytkhplfgehcljmaa", sum := "c9ad35339ec9a8d9808bf8881654c51e63c6430ec901cf1ed9a2b505631f2566", func := "freight/freightlaw1.CodeTwo", spec := "codeTwo", apart := false, narrowed := true }
def CodeTwoUptoSaid : Prop := codeTwoUptoRow.holds Try.pinned (OpenSpec.upto codeTwoSpec)

/-- 'freightlaw1.CodeReads', WHERE WHAT IT READS IS OF BULK AT MOST 1048576: true; the input reads as it did. -/
def codeReadsUptoRow : OpenClaim := { program := "ytkhplfgehcljmaa", sum := "c9ad35339ec9a8d9808bf8881654c51e63c6430ec901cf1ed9a2b505631f2566", func := "freight/freightlaw1.CodeReads", spec := "codeReads", apart := false, narrowed := true }
def CodeReadsUptoSaid : Prop := codeReadsUptoRow.holds Try.pinned (OpenSpec.upto codeReadsSpec)

/-- 'freightlaw1.CodeBeside', WHERE WHAT IT READS IS OF BULK AT MOST 1048576: true; the input reads as it did. -/
def codeBesideUptoRow : OpenClaim := { program := "ytkhplfgehcljmaa", sum := "c9ad35339ec9a8d9808bf8881654c51e63c6430ec901cf1ed9a2b505631f2566", func := "freight/freightlaw1.CodeBeside", spec := "codeBeside", apart := false, narrowed := true }
def CodeBesideUptoSaid : Prop := codeBesideUptoRow.holds Try.pinned (OpenSpec.upto codeBesideSpec)

/-- 'freightlaw1.CodeNothing', WHERE WHAT IT READS IS OF BULK AT MOST 1048576: true; the input reads as it did. -/
def codeNothingUptoRow : OpenClaim := { program := "ytkhplfgehcljmaa", sum := "c9ad35339ec9a8d9808bf8881654c51e63c6430ec901cf1ed9a2b505631f2566", func := "freight/freightlaw1.CodeNothing", spec := "codeNothing", apart := false, narrowed := true }
def CodeNothingUptoSaid : Prop := codeNothingUptoRow.holds Try.pinned (OpenSpec.upto codeNothingSpec)

/-- 'freightlaw1.CodeBack', WHERE WHAT IT READS IS OF BULK AT MOST 1048576: true; the input reads as it did. -/
def codeBackUptoRow : OpenClaim := { program := "ytkhplfgehcljmaa", sum := "c9ad35339ec9a8d9808bf8881654c51e63c6430ec901cf1ed9a2b505631f2566", func := "freight/freightlaw1.CodeBack", spec := "codeBack", apart := false, narrowed := true }
def CodeBackUptoSaid : Prop := codeBackUptoRow.holds Try.pinned (OpenSpec.upto codeBackSpec)

/-- 'freightlaw1.CodeForm', WHERE WHAT IT READS IS OF BULK AT MOST 1048576: true; the input reads as it did. -/
def codeFormUptoRow : OpenClaim := { program := "ytkhplfgehcljmaa", sum := "c9ad35339ec9a8d9808bf8881654c51e63c6430ec901cf1ed9a2b505631f2566", func := "freight/freightlaw1.CodeForm", spec := "codeForm", apart := false, narrowed := true }
def CodeFormUptoSaid : Prop := codeFormUptoRow.holds Try.pinned (OpenSpec.upto codeFormSpec)

/-- 'freightlaw1.CodeTells', WHERE WHAT IT READS IS OF BULK AT MOST 1048576: true; the input reads as it did. -/
def codeTellsUptoRow : OpenClaim := { program := "ytkhplfgehcljmaa", sum := "c9ad35339ec9a8d9808bf8881654c51e63c6430ec901cf1ed9a2b505631f2566", func := "freight/freightlaw1.CodeTells", spec := "codeTells", apart := false, narrowed := true }
def CodeTellsUptoSaid : Prop := codeTellsUptoRow.holds Try.pinned (OpenSpec.upto codeTellsSpec)

/-- 'freightlaw1.CodeOwn', WHERE WHAT IT READS IS OF BULK AT MOST 1048576: true; the input reads as it did. -/
def codeOwnUptoRow : OpenClaim := { program := "ytkhplfgehcljmaa", sum := "c9ad35339ec9a8d9808bf8881654c51e63c6430ec901cf1ed9a2b505631f2566", func := "freight/freightlaw1.CodeOwn", spec := "codeOwn", apart := false, narrowed := true }
def CodeOwnUptoSaid : Prop := codeOwnUptoRow.holds Try.pinned (OpenSpec.upto codeOwnSpec)

end Rows
end Go.Proofs.Ytkhplfgehcljmaa
