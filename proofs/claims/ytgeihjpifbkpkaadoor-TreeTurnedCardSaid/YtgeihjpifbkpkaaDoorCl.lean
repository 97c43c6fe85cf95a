/- The deferred closure of Parse: it recovers. -/
import Derived.Test.YtgeihjpifbkpkaaDoorEw
import Derived.Defers
import Derived.Recover
import Derived.Laws.Pointers
set_option linter.unusedVariables false
set_option linter.unusedSimpArgs false
namespace Go.Proofs.YtgeihjpifbkpkaaDoor
open Go.RowKit
def goneR : PanicEntry := { v := .iface 65 (.agg #[]), recovered := true }

set_option maxHeartbeats 1000000 in
set_option maxRecDepth 100000 in
theorem catch_idle (p q : Addr) (w : World) :
    CallsD Tryd.prog 36 #[.pointer (some p), .pointer (some q)] .returning w fun e u' w' => e = .returned (.tuple #[]) ∧ u' = .returning ∧ w' = w := by
  refine callsD_of_wpS Tryd.func36 rfl fun c₀ cs hu => ?_
  apply wpS_seq
  apply wpS_region
  simp [wpOpsS, go_sem, recoverD, hu, Tryd.ntmps36, Exit.thenS]
  apply wpS_seq
  apply wpS_region
  simp [wpOpsS, go_sem, Exit.thenS]
  refine wpS_cond (t := false) (by simp [Act.eval, Array.replicate]) ?_
  simp only [Bool.false_eq_true, if_false]
  refine wpS_of_wp (wp_skip ?_)
  cases c₀
  simp_all [bodyPostS, results, Tryd.results36]

set_option maxHeartbeats 1000000 in
set_option maxRecDepth 100000 in
theorem catch_gone (p q : Nat) (w : World) (x y : Value) (hp : Blk w p #[x] 24) (hq : Blk w q #[y] 27) (hpq : p ≠ q) :
    CallsD Tryd.prog 36 #[.pointer (some ⟨p, 0, none⟩), .pointer (some ⟨q, 0, none⟩)] (.panicking [gone]) w fun e u' w' => e = .returned (.tuple #[]) ∧ u' = .panicking [goneR] ∧ Blk w' p #[.slice none 0 0] 24 ∧ Blk w' q #[.int .i64 70] 27 ∧ Keep [p, q] w w' := by
  refine callsD_of_wpS Tryd.func36 rfl fun c₀ cs hu => ?_
  unfold gone at hu
  apply wpS_seq
  apply wpS_region
  simp [wpOpsS, go_sem, recoverD, hu, Tryd.ntmps36, Exit.thenS]
  apply wpS_seq
  apply wpS_region
  simp [wpOpsS, go_sem, Exit.thenS]
  refine wpS_of_wp ?_
  change Code.wp _ _ _ { tmps := #[Value.pointer (some ⟨p, 0, none⟩), Value.pointer (some ⟨q, 0, none⟩), Value.iface 65 (Value.agg #[]), undef, undef, Value.iface 65 (Value.agg #[]), Value.iface 65 (Value.agg #[]), Value.bool true, undef, undef, undef, undef, undef, undef, undef, undef], defers := [] } _
  generalize hQ : (fun e a' w' => bodyPostS Tryd.prog Tryd.f36 _ _ _ e a' _ w') = Q
  have HQ := Lib.hid hQ
  clear hQ hu
  have hta : ∀ w, (Instr.typeAssert (.iface 65 (.agg #[])) 20 65 true).run Tryd.prog w = .ok (.tuple #[.agg #[], .bool true]) w := fun w => by kernel_rfl
  have hp1 := hp.alloc (.cells #[] 65)
  have hq1 := hq.alloc (.cells #[] 65)
  have k1 : Keep [p, q] w (w.alloc (.cells #[] 65)) := (Keep.refl [p, q] w).alloc _
  go_upto_region 5 with fail
  generalize w.alloc (.cells #[] 65) = W1 at hp1 hq1 k1 ⊢
  have hp2 := hp1.set 0 (.slice none 0 0)
  have hq2 := hq1.setOther (a := ⟨p, 0, none⟩) hpq.symm (.slice none 0 0)
  have hq3 := hq2.set 0 (.int .i64 70)
  have hp3 := hp2.setOther (a := ⟨q, 0, none⟩) hpq (.int .i64 70)
  have k3 := (k1.set (a := ⟨p, 0, none⟩) (Or.inl (by simp)) (.slice none 0 0)).set (a := ⟨q, 0, none⟩) (Or.inl (by simp)) (.int .i64 70)
  have c1 := hp1.cell (i := 0) rfl
  have f1 := hp1.free (i := 0)
  have c2 := hq2.cell (i := 0) rfl
  have f2 := hq2.free (i := 0)
  go_wp2_with fail
  rw [← HQ.out]
  simp_all [bodyPostS, results, Tryd.results36, goneR]
end Go.Proofs.YtgeihjpifbkpkaaDoor
