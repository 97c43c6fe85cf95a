/- TreeReturns: its walk, whole. -/
import Derived.Test.YtgeihjpifbkpkaaDoorTr
set_option linter.unusedVariables false
namespace Go.Proofs.YtgeihjpifbkpkaaDoor
open Go.RowKit
theorem treeReturns_walk (a : Option Addr) (n c : Nat) (l : List Ent) (b : Option Addr) (m d : Nat) (ms : List UInt8) (cut : Int) (w : World) (hx : EsIn w a n c l) (hy : InBytes w b m d ms) (hw : (Lit.int .i64 cut).wf = true) (hT : Tabs w) :
    Calls Tryd.prog 6 #[.slice a n c, .slice b m d, .int .i64 cut] w fun e w' => e = .returned (.bool true) ∧ Keep [] w w' := by
  cases h0 : isT l with
  | false => exact treeReturns_no a n c l b m d ms cut w hx hT h0
  | true => exact treeReturns_yes a n c l b m d ms cut w hx hy hT h0
end Go.Proofs.YtgeihjpifbkpkaaDoor
