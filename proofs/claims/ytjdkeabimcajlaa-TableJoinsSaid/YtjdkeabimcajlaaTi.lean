/- TableJoins: what its row is made of. -/
import Derived.Test.YtjdkeabimcajlaaTj
import Derived.Test.YtjdkeabimcajlaaOr
set_option linter.unusedVariables false
namespace Go.Proofs.Ytjdkeabimcajlaa
open Go.RowKit
theorem tableJoins_walk' (a : Option Addr) (n c : Nat) (l : List Res) (b : Option Addr) (p d : Nat) (m : List Res) (how : Int) (w : World) (hx : RsIn w a n c l) (hy : RsIn w b p d m) (_ : (Lit.int .i64 how).wf = true) :
    Calls Try.prog 5 #[.slice a n c, .slice b p d, .int .i64 how] w fun e w' => e = .returned (.bool true) ∧ Keep [] w w' := tableJoins_walk a n c l b p d m how w hx hy
end Go.Proofs.Ytjdkeabimcajlaa
