/- Kp -/
import Derived.Test.YtpocegdlobnhaaaGG
import Derived.Test.YtpocegdlobnhaaaGD
section
/- The document's deltas of two blocks, evaluated. -/
set_option linter.unusedVariables false
set_option maxRecDepth 100000
namespace Go.Proofs.Ytpocegdlobnhaaa
open Go.RowKit
def rowX (x : UInt8) : List UInt8 := x :: List.replicate 15 0
def baX : List UInt8 := (rowX 1 ++ rowX 2) ++ [3]
def taX : List UInt8 := ([9] ++ rowX 1) ++ [8]
theorem sg_X : signC 32 baX 16 = 0 ∧ signS 32 baX 16 = signR 32 baX 16 2 := by
  have h : signC 32 baX 16 = 0 := by decide +kernel
  exact ⟨h, by unfold signS; rw [if_pos h]; rfl⟩
theorem mk_X : (makO (signR 32 baX 16 2) taX).2 = 0 := by decide +kernel
theorem ap_X : aplO baX (makO (signR 32 baX 16 2) taX).1 = (taX, 0) := by decide +kernel
theorem ap_Y : (aplO (baX.take 32) (makO (signR 32 baX 16 2) taX).1).2 = 181 := by decide +kernel
theorem bl_X : (signR 32 baX 16 2).blocks.length = 2 := signBl_len _ _ _ _

end Go.Proofs.Ytpocegdlobnhaaa
end
