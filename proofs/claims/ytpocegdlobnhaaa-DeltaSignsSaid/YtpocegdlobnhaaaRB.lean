/- The walks of Desk.lay and Desk.lies. -/
import Derived.Test.YtpocegdlobnhaaaIb
import Derived.Test.YtpocegdlobnhaaaRows
import Derived.Test.YtpocegdlobnhaaaLib
set_option maxRecDepth 100000
namespace Go.Proofs.Ytpocegdlobnhaaa.Rol
open Go.RowKit

theorem Try.info5 : (Try.prog.info? 5).map (fun i => (i.zero, i.size, i.bytes)) = some (some (.int .u8 0), 1, 1) := by kernel_rfl
theorem Try.size5 : (Try.prog.info? 5).map (·.size) = some 1 := by kernel_rfl

end Go.Proofs.Ytpocegdlobnhaaa.Rol
