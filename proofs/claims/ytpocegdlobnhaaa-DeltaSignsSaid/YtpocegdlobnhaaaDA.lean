/- SHA-256: the rounds, as plain functions, and the two 'turned'. -/
import Derived.Test.YtpocegdlobnhaaaRows
import Derived.Deep.WholeRow
import Derived.Deep.MidRow
import Derived.Test.YtpocegdlobnhaaaDP
set_option linter.unusedVariables false
set_option linter.unusedSimpArgs false
set_option maxRecDepth 100000
namespace Go.Proofs.Ytpocegdlobnhaaa.Dig
open Go.RowKit

theorem turned_any (x n : Int) (w : World) (hn : 0 ≤ n ∧ n ≤ 32) :
    Calls Try.prog 121 #[.int .u32 x, .int .i64 n] w fun e w' => e = .returned (.int .u32 (rot x n.toNat)) ∧ ∃ m, w' = w.drewN m := by
  obtain ⟨n, rfl⟩ : ∃ k : Nat, n = k := ⟨n.toNat, by omega⟩
  have q1 : (0 : Int) ≤ n := by omega
  have q2 : (0 : Int) ≤ 32 - n := by omega
  have q3 : IntKind.i64.wrap (32 - (n : Int)) = 32 - n := IntWalk.i64_in _ (by omega)
  go_enter Try.func121, Try.ntmps121
  go_wp2_with fail
  go_quiet (fail)
  go_wp2
  go_returns
  exact ⟨rfl, nq, rfl⟩
theorem turnedRef_any (x n : Int) (w : World) (hn : 0 ≤ n ∧ n ≤ 32) :
    Calls Try.prog 114 #[.int .u32 x, .int .i64 n] w fun e w' => e = .returned (.int .u32 (rot x n.toNat)) ∧ ∃ m, w' = w.drewN m := by
  obtain ⟨n, rfl⟩ : ∃ k : Nat, n = k := ⟨n.toNat, by omega⟩
  have q1 : (0 : Int) ≤ n := by omega
  have q2 : (0 : Int) ≤ 32 - n := by omega
  have q3 : IntKind.i64.wrap (32 - (n : Int)) = 32 - n := IntWalk.i64_in _ (by omega)
  go_enter Try.func114, Try.ntmps114
  go_wp2_with fail
  go_quiet (fail)
  go_wp2
  go_returns
  exact ⟨rfl, nq, rfl⟩
/-- A whole array into the block that was made last. -/
theorem wpList_store_new {P : Program} {ops : Array Oper} {rest : List Oper} {op : Oper} {a : Act} {w : World} {Q : Exit → Act → World → Prop} (hgd : op.guard = none) (ty : TypeId) (x y : Operand) (ho : op.op = .store ty x y)
    (c c' : Array Value) (hx : a.eval x = .pointer (some ⟨w.heap.size, 0, none⟩)) (hy : a.eval y = .agg c')
    (hi : (P.info? ty).map (·.size) = some c'.size) (hz : c.size = c'.size) (h1 : c'.all (·.oneCell') = true)
    (h : wpList P ops Q rest (a.put op.dst undef) (w.alloc (.cells c' ty))) : wpList P ops Q (op :: rest) a (w.alloc (.cells c ty)) :=
  wpList_plain hgd fun _ hK => by
    unfold Oper.wp execOp
    simp only [ho, hx, hy, Sem.run_bind, Sem.run_pure, Result.andThen_ok, run_storeAt_new w ty c c' hi hz h1]
    exact hK _ _ h

theorem setRow_alloc_past (w : World) (o : Obj) (b : Nat) (c : Array Value) (hb : b < w.heap.size) : (w.alloc o).setRow b c = (w.setRow b c).alloc o := by
  simp only [World.setRow, World.alloc]
  congr 1
  apply Array.ext_getElem?
  intro i
  simp only [Array.getElem?_modify, Array.getElem?_push, Array.size_modify]
  by_cases h : b = i
  · subst h
    simp [Nat.ne_of_lt hb]
  · simp [h]
theorem storeCells_row {P : Program} (w : World) (b : Nat) (c : Array Value) (t : TypeId) (vs : List Value) (hb : w.heap[b]? = some (.cells c t (0, 0))) (hs : vs.length = c.size) (h1 : ∀ v ∈ vs, v.oneCell' = true) :
    (storeCells ⟨b, 0, none⟩ vs).run P w = .ok () (w.setRow b vs.toArray) := by
  have := run_storeCells_from (P := P) b t vs 0 c w hb (by omega) h1
  rw [this]
  congr 2
/-- A row into a block that is one of the last three. -/
theorem storeCells_last1 (P : Program) (vs : List Value) (h1 : ∀ v ∈ vs, v.oneCell' = true) (w : World) (b : Nat) (c : Array Value) (t : TypeId) (hs : vs.length = c.size) (hb : b = w.heap.size) :
    (storeCells ⟨b, 0, none⟩ vs).run P (w.alloc (.cells c t)) = .ok () (w.alloc (.cells vs.toArray t)) := by
  subst hb
  rw [storeCells_row _ _ c t vs (Blk.new w c t) hs h1, World.setRow_alloc_new]
theorem storeCells_last2 (P : Program) (vs : List Value) (h1 : ∀ v ∈ vs, v.oneCell' = true) (w : World) (b : Nat) (c : Array Value) (t : TypeId) (o : Obj) (hs : vs.length = c.size) (hb : b = w.heap.size) :
    (storeCells ⟨b, 0, none⟩ vs).run P ((w.alloc (.cells c t)).alloc o) = .ok () ((w.alloc (.cells vs.toArray t)).alloc o) := by
  subst hb
  rw [storeCells_row _ _ c t vs ((Blk.new w c t).alloc _) hs h1, setRow_alloc_past _ _ _ _ (by simp), World.setRow_alloc_new]
theorem storeCells_last3 (P : Program) (vs : List Value) (h1 : ∀ v ∈ vs, v.oneCell' = true) (w : World) (b : Nat) (c : Array Value) (t : TypeId) (o o' : Obj) (hs : vs.length = c.size) (hb : b = w.heap.size) :
    (storeCells ⟨b, 0, none⟩ vs).run P (((w.alloc (.cells c t)).alloc o).alloc o') = .ok () (((w.alloc (.cells vs.toArray t)).alloc o).alloc o') := by
  subst hb
  rw [storeCells_row _ _ c t vs (((Blk.new w c t).alloc _).alloc _) hs h1, setRow_alloc_past _ _ _ _ (by simp; omega), setRow_alloc_past _ _ _ _ (by simp), World.setRow_alloc_new]
/-- The six rules, as a walk wants them laid. -/
theorem storeCells_lasts (P : Program) (vs : List Value) (h1 : ∀ v ∈ vs, v.oneCell' = true) :
    (∀ (w : World) (b : Nat) (c : Array Value) (t : TypeId) (hs : vs.length = c.size) (hb : b = w.heap.size), (storeCells ⟨b, 0, none⟩ vs).run P (w.alloc (.cells c t)).drew = .ok () (w.alloc (.cells vs.toArray t)).drew) ∧
    (∀ (w : World) (b : Nat) (c : Array Value) (t : TypeId) (o : Obj) (hs : vs.length = c.size) (hb : b = w.heap.size), (storeCells ⟨b, 0, none⟩ vs).run P ((w.alloc (.cells c t)).alloc o).drew = .ok () ((w.alloc (.cells vs.toArray t)).alloc o).drew) ∧
    (∀ (w : World) (b : Nat) (c : Array Value) (t : TypeId) (o o' : Obj) (hs : vs.length = c.size) (hb : b = w.heap.size), (storeCells ⟨b, 0, none⟩ vs).run P (((w.alloc (.cells c t)).alloc o).alloc o').drew = .ok () (((w.alloc (.cells vs.toArray t)).alloc o).alloc o').drew) :=
  ⟨fun w b c t hs hb => storeCells_last1 P vs h1 w.drew b c t hs hb, fun w b c t o hs hb => storeCells_last2 P vs h1 w.drew b c t o hs hb, fun w b c t o o' hs hb => storeCells_last3 P vs h1 w.drew b c t o o' hs hb⟩
theorem u32s_one (l : List Int) : ∀ v ∈ u32s l, v.oneCell' = true := by
  intro v hv; obtain ⟨x, _, rfl⟩ := List.mem_map.1 hv; rfl

theorem u32s_all (l : List Int) : (u32s l).toArray.all (·.oneCell') = true := by
  refine Array.all_eq_true_iff_forall_mem.2 (fun v hv => ?_)
  simp only [u32s, List.mem_toArray, List.mem_map] at hv
  obtain ⟨x, _, rfl⟩ := hv; rfl

set_option maxRecDepth 100000 in
set_option maxHeartbeats 4000000 in
theorem words_any (w : World) :
    Calls Try.prog 122 #[] w fun e w' => e = .returned (.agg (u32s ktab).toArray) ∧ w' = w.alloc (.cells (u32s ktab).toArray 149) := by
  go_enter Try.func122, Try.ntmps122
  go_wp2_with (first | (refine wpList_store_new rfl 149 (.tmp 0) (.tmp 1) rfl _ (u32s ktab).toArray rfl rfl rfl rfl (u32s_all _) ?_) | fail)
  exact bodyPost_ret (results_cell_row rfl _ _ w.heap.size 149 (u32s ktab).toArray (0, 0) _ rfl (Blk.new w _ 149) rfl rfl rfl) rfl ⟨rfl, rfl⟩
end Go.Proofs.Ytpocegdlobnhaaa.Dig
