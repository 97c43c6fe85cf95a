/- The walks of New, of a Roll's Sum, and of nil and zero Rolls. -/
import Derived.Test.YtpocegdlobnhaaaIb
import Derived.Test.YtpocegdlobnhaaaRC
set_option linter.unusedVariables false
set_option linter.unusedSimpArgs false
set_option maxRecDepth 100000
namespace Go.Proofs.Ytpocegdlobnhaaa.Rol
open Go.RowKit

theorem of_n (a : Option Addr) (n cap : Nat) (xs : List UInt8) (w : World) (hl : xs.length = n) (hn : n ≤ 9223372036854775807) (hr : Rd w a (bs xs)) :
    Calls Try.prog 74 #[.slice a n cap] w fun e w' => e = .returned (.agg #[.int .u16 (sums xs).1, .int .u16 (sums xs).2]) ∧ Keep [] w w' := by
  subst hl; exact of_any a cap xs w hn hr
theorem clone_n (a : Option Addr) (n cap : Nat) (xs : List UInt8) (w : World) (hl : xs.length = n) (hn : n ≤ 140737488355328) (hr : Rd w a (bs xs)) (hc : a = none → cap = 0) :
    Calls Try.prog 118 #[.slice a n cap] w fun e w' => ∃ v, e = .returned v ∧ w'.ownsRow w.heap.size 5 1 v n (bs xs) ∧ Keep [] w w' := by
  subst hl; exact clone_any a cap xs w hn hr hc

set_option maxHeartbeats 800000 in
/-- A zero Roll. -/
def ZeroRoll (w : World) (r : Nat) : Prop := Blk w r #[.slice none 0 0, .int .i64 0, .int .u16 0, .int .u16 0] 49

end Go.Proofs.Ytpocegdlobnhaaa.Rol
