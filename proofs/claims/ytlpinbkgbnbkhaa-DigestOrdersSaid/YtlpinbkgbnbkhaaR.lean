/- The reference's tables. -/
import Derived.Test.YtlpinbkgbnbkhaaC
import Derived.Test.YtlpinbkgbnbkhaaH
set_option linter.unusedVariables false
set_option linter.unusedSimpArgs false
namespace Go.Proofs.Ytlpinbkgbnbkhaa
open Go.RowKit

set_option maxRecDepth 100000 in
set_option maxHeartbeats 4000000 in
theorem table_any (w : World) :
    Calls Try.prog 35 #[] w fun e w' => e = .returned (.agg (u32s ktab).toArray) ∧ w' = w.alloc (.cells (u32s ktab).toArray 70) := by
  go_enter Try.func35, Try.ntmps35
  go_wp2_with (first | (refine wpList_store_new rfl 70 (.tmp 0) (.tmp 1) rfl _ (u32s ktab).toArray rfl rfl rfl rfl (u32s_all _) ?_) | fail)
  exact bodyPost_ret (results_cell_row rfl _ _ w.heap.size 70 (u32s ktab).toArray (0, 0) _ rfl (Blk.new w _ 70) rfl rfl rfl) rfl ⟨rfl, rfl⟩
set_option maxRecDepth 100000 in
set_option maxHeartbeats 4000000 in
theorem first_any (w : World) :
    Calls Try.prog 34 #[] w fun e w' => e = .returned (.agg (u32s first).toArray) ∧ w' = w.alloc (.cells (u32s first).toArray 49) := by
  go_enter Try.func34, Try.ntmps34
  go_wp2_with (first | (refine wpList_store_new rfl 49 (.tmp 0) (.tmp 1) rfl _ (u32s first).toArray rfl rfl rfl rfl (u32s_all _) ?_) | fail)
  exact bodyPost_ret (results_cell_row rfl _ _ w.heap.size 49 (u32s first).toArray (0, 0) _ rfl (Blk.new w _ 49) rfl rfl rfl) rfl ⟨rfl, rfl⟩
end Go.Proofs.Ytlpinbkgbnbkhaa
