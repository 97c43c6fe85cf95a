/-
  DERIVED. GIVEN WITH THE SEED: THE CARDS: each row of YtgeihjpifbkpkaaDoorRows.lean that lists a variable, with what it lists TIED to the program's text (the seventh form; the later family's looks); each row that meets fmt, with fmt's text TOLD by the authors' own Lean function (tested against real Go, not proved from fmt's source: count such statements apart). THE CARD IS WHAT COUNTS. Prove the row's statement (the work); the ties are given (YtgeihjpifbkpkaaDoorTie.lean); close each card by the builder's one call (the guide's Derived/Test/ToyasCard.lean, 'card_holds'). Laid BY PROGRAM, IN A SANDBOX (cutbox-door.mjs). By AI agents, Wed Nov 11 2026. No macro, syntax, notation, axiom, sorry.
-/
import Derived.Test.YtgeihjpifbkpkaaDoorRows
import GoSem.ClaimSeven
namespace Go.Proofs.YtgeihjpifbkpkaaDoor
namespace Rows

/-- THE TIED CARD OF 'freightlaw7.TreeValid'. -/
def treeValidCard : Claim7 := { stood := { row := treeValidRow, standIns := [], harness := (true, "72153d3ffe1fdbf6b99463d244c7f9a5771ce9feac9a3d90f7d92e523922e525"), looks := true }, kinds := [], alts := [], laidByText := true, laidKinds := [.data, .pinned], laidTests := true, laidLooks := .later }
def TreeValidCardSaid : Prop := Claim7.holds Tryd.pinned (.plain (OpenSpec.ofChange treeValidSpec)) treeValidCard

/-- THE TIED CARD OF 'freightlaw7.TreeEncodes'. -/
def treeEncodesCard : Claim7 := { stood := { row := treeEncodesRow, standIns := [], harness := (true, "72153d3ffe1fdbf6b99463d244c7f9a5771ce9feac9a3d90f7d92e523922e525"), looks := true }, kinds := [], alts := [], laidByText := true, laidKinds := [.data, .pinned], laidTests := true, laidLooks := .later }
def TreeEncodesCardSaid : Prop := Claim7.holds Tryd.pinned (.plain (OpenSpec.ofChange treeEncodesSpec)) treeEncodesCard

/-- THE TIED CARD OF 'freightlaw7.TreeParses'. -/
def treeParsesCard : Claim7 := { stood := { row := treeParsesRow, standIns := [], harness := (true, "72153d3ffe1fdbf6b99463d244c7f9a5771ce9feac9a3d90f7d92e523922e525"), looks := true }, kinds := [], alts := [], laidByText := true, laidKinds := [.data, .pinned], laidTests := true, laidLooks := .later }
def TreeParsesCardSaid : Prop := Claim7.holds Tryd.pinned (.plain (OpenSpec.ofChange treeParsesSpec)) treeParsesCard

/-- THE TIED CARD OF 'freightlaw7.TreeReturns'. -/
def treeReturnsCard : Claim7 := { stood := { row := treeReturnsRow, standIns := [], harness := (true, "72153d3ffe1fdbf6b99463d244c7f9a5771ce9feac9a3d90f7d92e523922e525"), looks := true }, kinds := [], alts := [], laidByText := true, laidKinds := [.data, .pinned], laidTests := true, laidLooks := .later }
def TreeReturnsCardSaid : Prop := Claim7.holds Tryd.pinned (.plain (OpenSpec.ofChange treeReturnsSpec)) treeReturnsCard

/-- THE TIED CARD OF 'freightlaw7.TreeOnly'. -/
def treeOnlyCard : Claim7 := { stood := { row := treeOnlyRow, standIns := [], harness := (true, "72153d3ffe1fdbf6b99463d244c7f9a5771ce9feac9a3d90f7d92e523922e525"), looks := true }, kinds := [], alts := [], laidByText := true, laidKinds := [.data, .pinned], laidTests := true, laidLooks := .later }
def TreeOnlyCardSaid : Prop := Claim7.holds Tryd.pinned (.plain (OpenSpec.ofChange treeOnlySpec)) treeOnlyCard

/-- THE TIED CARD OF 'freightlaw7.TreeTurned'. -/
def treeTurnedCard : Claim7 := { stood := { row := treeTurnedRow, standIns := [], harness := (true, "72153d3ffe1fdbf6b99463d244c7f9a5771ce9feac9a3d90f7d92e523922e525"), looks := true }, kinds := [], alts := [], laidByText := true, laidKinds := [.data, .pinned], laidTests := true, laidLooks := .later }
def TreeTurnedCardSaid : Prop := Claim7.holds Tryd.pinned (.plain (OpenSpec.ofChange treeTurnedSpec)) treeTurnedCard

/-- THE TIED CARD OF 'freightlaw7.TreeKeeps'. -/
def treeKeepsCard : Claim7 := { stood := { row := treeKeepsRow, standIns := [], harness := (true, "72153d3ffe1fdbf6b99463d244c7f9a5771ce9feac9a3d90f7d92e523922e525"), looks := true }, kinds := [], alts := [], laidByText := true, laidKinds := [.data, .pinned], laidTests := true, laidLooks := .later }
def TreeKeepsCardSaid : Prop := Claim7.holds Tryd.pinned (.plain (OpenSpec.ofChange treeKeepsSpec)) treeKeepsCard

/-- THE SECOND FORM's CARD OF 'freightlaw7.TreeValid'. -/
def treeValidUptoCard : Claim7 := { stood := { row := treeValidUptoRow, standIns := [], harness := (true, "72153d3ffe1fdbf6b99463d244c7f9a5771ce9feac9a3d90f7d92e523922e525"), looks := true }, kinds := [], alts := [], laidByText := true, laidKinds := [.data, .pinned], laidTests := true, laidLooks := .later }
def TreeValidUptoCardSaid : Prop := Claim7.holds Tryd.pinned (.plain (OpenSpec.upto treeValidSpec)) treeValidUptoCard

/-- THE SECOND FORM's CARD OF 'freightlaw7.TreeEncodes'. -/
def treeEncodesUptoCard : Claim7 := { stood := { row := treeEncodesUptoRow, standIns := [], harness := (true, "72153d3ffe1fdbf6b99463d244c7f9a5771ce9feac9a3d90f7d92e523922e525"), looks := true }, kinds := [], alts := [], laidByText := true, laidKinds := [.data, .pinned], laidTests := true, laidLooks := .later }
def TreeEncodesUptoCardSaid : Prop := Claim7.holds Tryd.pinned (.plain (OpenSpec.upto treeEncodesSpec)) treeEncodesUptoCard

/-- THE SECOND FORM's CARD OF 'freightlaw7.TreeParses'. -/
def treeParsesUptoCard : Claim7 := { stood := { row := treeParsesUptoRow, standIns := [], harness := (true, "72153d3ffe1fdbf6b99463d244c7f9a5771ce9feac9a3d90f7d92e523922e525"), looks := true }, kinds := [], alts := [], laidByText := true, laidKinds := [.data, .pinned], laidTests := true, laidLooks := .later }
def TreeParsesUptoCardSaid : Prop := Claim7.holds Tryd.pinned (.plain (OpenSpec.upto treeParsesSpec)) treeParsesUptoCard

/-- THE SECOND FORM's CARD OF 'freightlaw7.TreeReturns'. -/
def treeReturnsUptoCard : Claim7 := { stood := { row := treeReturnsUptoRow, standIns := [], harness := (true, "72153d3ffe1fdbf6b99463d244c7f9a5771ce9feac9a3d90f7d92e523922e525"), looks := true }, kinds := [], alts := [], laidByText := true, laidKinds := [.data, .pinned], laidTests := true, laidLooks := .later }
def TreeReturnsUptoCardSaid : Prop := Claim7.holds Tryd.pinned (.plain (OpenSpec.upto treeReturnsSpec)) treeReturnsUptoCard

/-- THE SECOND FORM's CARD OF 'freightlaw7.TreeOnly'. -/
def treeOnlyUptoCard : Claim7 := { stood := { row := treeOnlyUptoRow, standIns := [], harness := (true, "72153d3ffe1fdbf6b99463d244c7f9a5771ce9feac9a3d90f7d92e523922e525"), looks := true }, kinds := [], alts := [], laidByText := true, laidKinds := [.data, .pinned], laidTests := true, laidLooks := .later }
def TreeOnlyUptoCardSaid : Prop := Claim7.holds Tryd.pinned (.plain (OpenSpec.upto treeOnlySpec)) treeOnlyUptoCard

/-- THE SECOND FORM's CARD OF 'freightlaw7.TreeTurned'. -/
def treeTurnedUptoCard : Claim7 := { stood := { row := treeTurnedUptoRow, standIns := [], harness := (true, "72153d3ffe1fdbf6b99463d244c7f9a5771ce9feac9a3d90f7d92e523922e525"), looks := true }, kinds := [], alts := [], laidByText := true, laidKinds := [.data, .pinned], laidTests := true, laidLooks := .later }
def TreeTurnedUptoCardSaid : Prop := Claim7.holds Tryd.pinned (.plain (OpenSpec.upto treeTurnedSpec)) treeTurnedUptoCard

/-- THE SECOND FORM's CARD OF 'freightlaw7.TreeKeeps'. -/
def treeKeepsUptoCard : Claim7 := { stood := { row := treeKeepsUptoRow, standIns := [], harness := (true, "72153d3ffe1fdbf6b99463d244c7f9a5771ce9feac9a3d90f7d92e523922e525"), looks := true }, kinds := [], alts := [], laidByText := true, laidKinds := [.data, .pinned], laidTests := true, laidLooks := .later }
def TreeKeepsUptoCardSaid : Prop := Claim7.holds Tryd.pinned (.plain (OpenSpec.upto treeKeepsSpec)) treeKeepsUptoCard
end Rows
end Go.Proofs.YtgeihjpifbkpkaaDoor
