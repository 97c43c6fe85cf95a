/- TreeValid: its walk. -/
import Derived.Test.YtgeihjpifbkpkaaDoorKn
set_option linter.unusedVariables false
set_option linter.unusedSimpArgs false
namespace Go.Proofs.YtgeihjpifbkpkaaDoor
open Go.RowKit
set_option maxRecDepth 100000 in
theorem treeValid_walk (s : ByteArray) (w : World) (hs : s.size ≤ 140737488351232) (hT : Tabs w) : Calls Tryd.prog 3 #[.string s] w fun e w' => e = .returned (.bool true) ∧ Keep [] w w' := by
  obtain ⟨v, hv⟩ : ∃ v, nameB s = v := ⟨_, rfl⟩
  have V1 := Lib.hid (fun W h => by have := valid_any s W (by omega) h; rwa [hv] at this : ∀ W, Tabs W → Calls Tryd.prog 11 #[.string s] W fun e w' => e = .returned (.bool v) ∧ Keep [] W w')
  have V2 := Lib.hid (fun W => by have := refValid_any s W (by omega); rwa [hv] at this : ∀ W, Calls Tryd.prog 12 #[.string s] W fun e w' => e = .returned (.bool v) ∧ w' = W)
  have hb : (v == v) = true := by cases v <;> rfl
  clear hv
  go_enter Tryd.func3, Tryd.ntmps3
  go_wp2_with (first
    | (go_at_call 10; refine (known_any _ hT).mono ?_; rintro e w1 ⟨rfl, k1⟩)
    | (go_at_call 11; refine (V1.out _ (hT.keep k1)).mono ?_; rintro e w2 ⟨rfl, k2⟩)
    | (go_at_call 12; refine (V2.out _).mono ?_; rintro e w3 ⟨rfl, rfl⟩)
    | fail)
  go_returns
  exact ⟨rfl, k1.trans' k2⟩
end Go.Proofs.YtgeihjpifbkpkaaDoor
