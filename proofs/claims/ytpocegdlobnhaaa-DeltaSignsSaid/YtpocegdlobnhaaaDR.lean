/- The reference's tables. -/
import Derived.Test.YtpocegdlobnhaaaIb
import Derived.Test.YtpocegdlobnhaaaDC
import Derived.Test.YtpocegdlobnhaaaDG
set_option linter.unusedVariables false
set_option linter.unusedSimpArgs false
set_option maxRecDepth 100000
namespace Go.Proofs.Ytpocegdlobnhaaa.Dig
open Go.RowKit

set_option maxRecDepth 100000 in
set_option maxHeartbeats 4000000 in
theorem table_any (w : World) :
    Calls Try.prog 92 #[] w fun e w' => e = .returned (.agg (u32s ktab).toArray) ∧ w' = w.alloc (.cells (u32s ktab).toArray 149) := by
  go_enter Try.func92, Try.ntmps92
  go_wp2_with (first | (refine wpList_store_new rfl 149 (.tmp 0) (.tmp 1) rfl _ (u32s ktab).toArray rfl rfl rfl rfl (u32s_all _) ?_) | fail)
  exact bodyPost_ret (results_cell_row rfl _ _ w.heap.size 149 (u32s ktab).toArray (0, 0) _ rfl (Blk.new w _ 149) rfl rfl rfl) rfl ⟨rfl, rfl⟩
set_option maxRecDepth 100000 in
set_option maxHeartbeats 4000000 in
theorem first_any (w : World) :
    Calls Try.prog 91 #[] w fun e w' => e = .returned (.agg (u32s first).toArray) ∧ w' = w.alloc (.cells (u32s first).toArray 147) := by
  go_enter Try.func91, Try.ntmps91
  go_wp2_with (first | (refine wpList_store_new rfl 147 (.tmp 0) (.tmp 1) rfl _ (u32s first).toArray rfl rfl rfl rfl (u32s_all _) ?_) | fail)
  exact bodyPost_ret (results_cell_row rfl _ _ w.heap.size 147 (u32s first).toArray (0, 0) _ rfl (Blk.new w _ 147) rfl rfl rfl) rfl ⟨rfl, rfl⟩
end Go.Proofs.Ytpocegdlobnhaaa.Dig
