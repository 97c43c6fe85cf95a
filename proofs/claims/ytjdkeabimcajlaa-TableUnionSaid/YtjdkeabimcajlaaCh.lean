/- choices: the map of ways; its functions; one looked up. -/
import Derived.Test.YtjdkeabimcajlaaRw
import Derived.MapKept
set_option linter.unusedVariables false
set_option linter.unusedSimpArgs false
namespace Go.Proofs.Ytjdkeabimcajlaa
open Go.RowKit

theorem under81 : Try.prog.underlying 81 = some (.map 3 80) := by kernel_rfl
theorem under3 : Try.prog.underlying 3 = some (.int .i64) := Try.underlying3
def entryOf (k : Int) (f : FuncId) (b : Nat) : MapEntry := { key := .int .i64 k, val := .func (.func f) #[] #[], born := b }
def mapAt (w : World) (r : Nat) (es : List MapEntry) (c : Nat) : Prop := w.heap[r]? = some (.map es.toArray c)
theorem mapAt.keep {w w' : World} {r c : Nat} {es : List MapEntry} {S : List Nat} (h : mapAt w r es c) (k : Keep S w w') (hr : r ∉ S) : mapAt w' r es c := by
  have hlt : r < w.heap.size := (Array.getElem?_eq_some_iff.1 h).1
  unfold mapAt; rw [k.block r hlt hr]; exact h
theorem getMap {w : World} {r c : Nat} {es : List MapEntry} (h : mapAt w r es c) : (getObj r).run Try.prog w = .ok (.map es.toArray c) w := by
  unfold mapAt at h; simp [getObj, Sem.run, h]
theorem setMap {w : World} {r c : Nat} {es : List MapEntry} (o : Obj) (h : mapAt w r es c) : (setObj r o).run Try.prog w = .ok () { w with heap := w.heap.setIfInBounds r o } := by
  unfold mapAt at h; simp [setObj, Sem.run, h]
theorem findNow_ints (k : Int) : ∀ (es : List (Int × FuncId × Nat)) (i : Nat), Instr.findNow (.int .i64) (.int .i64 k) (es.map fun e => entryOf e.1 e.2.1 e.2.2) i =
    some ((es.zipIdx i).findSome? fun e => if k == e.1.1 then some (e.2, Value.func (.func e.1.2.1) #[] #[]) else none)
  | [], i => rfl
  | e :: es, i => by
    have ih := findNow_ints k es (i + 1)
    simp only [List.map_cons, Instr.findNow, entryOf, Instr.sameNow, if_true, List.zipIdx_cons, List.findSome?_cons]
    cases hk : (k == e.1) with
    | true => simp
    | false => simpa [entryOf] using ih
theorem run_checkKey_int (w : World) (b : Bool) (k : Int) : (Instr.checkKey b 10000 3 (.int .i64 k)).run Try.prog w = .ok () w := by
  show Sem.run Try.prog (Instr.checkKey b (9999 + 1) 3 (.int .i64 k)) w = _
  rw [Instr.checkKey]
  simp only [Sem.run_bind, run_underlying under3, Result.andThen_ok, Sem.run_pure]
theorem run_findKey (w : World) (k : Int) (es : List (Int × FuncId × Nat)) : (Instr.findKey 3 (.int .i64 k) (es.map fun e => entryOf e.1 e.2.1 e.2.2)).run Try.prog w =
    .ok ((es.zipIdx 0).findSome? fun e => if k == e.1.1 then some (e.2, Value.func (.func e.1.2.1) #[] #[]) else none) w := by
  simp only [Instr.findKey, Sem.run_bind, run_underlying under3, Result.andThen_ok, findNow_ints, Sem.run_pure]
theorem run_insert_new (w : World) (r : Nat) (k : Int) (f : FuncId) (es : List (Int × FuncId × Nat)) (c : Nat) (h : mapAt w r (es.map fun e => entryOf e.1 e.2.1 e.2.2) c) (hn : ((es.zipIdx 0).findSome? fun e => if k == e.1.1 then some (e.2, Value.func (.func e.1.2.1) #[] #[]) else none) = none) :
    ∃ w', (Instr.mapUpdate 81 (.map (some r)) (.int .i64 k) (.func (.func f) #[] #[])).run Try.prog w = .ok () w' ∧ (mapAt w' r ((es ++ [(k, f, c)]).map fun e => entryOf e.1 e.2.1 e.2.2) (c + 1) ∧ Keep [r] w w') := by
  refine ⟨{ w with heap := w.heap.setIfInBounds r (.map ((es.map fun e => entryOf e.1 e.2.1 e.2.2).toArray.push (entryOf k f c)) (c + 1)) }, ?_, ?_, ?_⟩
  · simp only [Instr.mapUpdate, Sem.run_bind, run_underlying under81, Result.andThen_ok, getMap h, run_checkKey_int, List.toList_toArray, run_findKey, hn]
    exact setMap _ h
  · have hlt : r < w.heap.size := (Array.getElem?_eq_some_iff.1 h).1
    simp only [mapAt]
    rw [Array.getElem?_setIfInBounds_self_of_lt hlt]
    simp [entryOf]
  · exact ⟨rfl, rfl, rfl, by simp, fun k _ hk => by simp only [List.mem_singleton] at hk; simp [Array.getElem?_setIfInBounds, Ne.symm hk]⟩
theorem wpList_insertN {ops : Array Oper} {rest : List Oper} {o : Oper} {a : Act} {w : World} {Q : Exit → Act → World → Prop} (hgd : o.guard = none) (m x y : Operand) (ho : o.op = .insert 81 m x y)
    (r : Nat) (k : Int) (f : FuncId) (es : List (Int × FuncId × Nat)) (c : Nat) (hm : a.eval m = .map (some r)) (hx : a.eval x = .int .i64 k) (hy : a.eval y = .func (.func f) #[] #[])
    (h : mapAt w r (es.map fun e => entryOf e.1 e.2.1 e.2.2) c) (hn : ((es.zipIdx 0).findSome? fun e => if k == e.1.1 then some (e.2, Value.func (.func e.1.2.1) #[] #[]) else none) = none)
    (hq : ∀ w', mapAt w' r ((es ++ [(k, f, c)]).map fun e => entryOf e.1 e.2.1 e.2.2) (c + 1) → Keep [r] w w' → wpList Try.prog ops Q rest (a.put o.dst undef) w') : wpList Try.prog ops Q (o :: rest) a w := by
  obtain ⟨w', hr, h1, h2⟩ := run_insert_new w r k f es c h hn
  refine wpList_plain hgd fun K hK => ?_
  unfold Oper.wp execOp
  simp only [ho, hm, hx, hy, hr, Sem.run_bind, Sem.run_pure, Result.andThen_ok]
  exact hK _ _ (hq w' h1 h2)

/-- The ways, as they lie. -/
def ways : List (Int × FuncId × Nat) := [(1, 63, 0), (2, 64, 1), (3, 63, 2)]
def WaysAt (w : World) (r : Nat) : Prop := mapAt w r (ways.map fun e => entryOf e.1 e.2.1 e.2.2) 3

set_option maxHeartbeats 1000000 in
set_option maxRecDepth 100000 in
theorem choices_any (w : World) : Calls Try.prog 48 #[] w fun e w' => ∃ r, e = .returned (.map (some r)) ∧ WaysAt w' r ∧ w.heap.size ≤ r ∧ Keep [] w w' := by
  have h0 : mapAt (w.alloc (.map #[] 0)) w.heap.size (([] : List (Int × FuncId × Nat)).map fun e => entryOf e.1 e.2.1 e.2.2) 0 := heap_alloc_new w _
  have k0 : Keep [] w (w.alloc (.map #[] 0)) := (Keep.refl [] w).alloc _
  have hmk : ∀ W, (Instr.makeMap 81 none).run Try.prog W = .ok (.map (some W.heap.size)) (W.alloc (.map #[] 0)) := fun W => rfl
  obtain ⟨W, hW⟩ : ∃ W, w.alloc (.map #[] 0) = W := ⟨_, rfl⟩
  rw [hW] at h0 k0
  have HW := Lib.hid hW
  clear hW
  go_enter Try.func48, Try.ntmps48
  go_upto_region 2 with fail
  go_upto_region 99 with (first
    | (refine wpList_insertN rfl (.tmp 2) (.const (.int .i64 1)) (.tmp 3) rfl w.heap.size 1 63 [] 0 rfl rfl rfl h0 rfl ?_; intro w1 h1 k1)
    | (refine wpList_insertN rfl (.tmp 2) (.const (.int .i64 2)) (.func 64) rfl w.heap.size 2 64 [(1, 63, 0)] 1 rfl rfl rfl h1 rfl ?_; intro w2 h2 k2)
    | (refine wpList_insertN rfl (.tmp 2) (.const (.int .i64 3)) (.tmp 4) rfl w.heap.size 3 63 [(1, 63, 0), (2, 64, 1)] 2 rfl rfl rfl h2 rfl ?_; intro w3 h3 k3)
    | (simp only [hmk, HW.out])
    | fail)
  go_returns
  exact ⟨w.heap.size, rfl, h3, Nat.le_refl _, ((k0.trans k1 (by simp)).trans k2 (by simp)).trans k3 (by simp)⟩

theorem run_zeroValue_of {t : TypeId} {v : Value} {n : Nat} (h : (Try.prog.info? t).map (fun i => (i.zero, i.size)) = some (some v, n)) (w : World) : (zeroValue t).run Try.prog w = .ok v w := by
  cases hq : Try.prog.info? t with
  | none => simp [hq] at h
  | some i =>
    have hz : i.zero = some v := by simp [hq] at h; exact h.1
    simp [zeroValue, typeInfo, hq, hz]
theorem hz39 (x : Res) : Try.zeroCells39.size = x.cells.toArray.size := (show Try.zeroCells39.size = 65 from rfl).trans (by simp [x.len])
def wayOf (how : Int) : Option FuncId := if how = 1 ∨ how = 3 then some 63 else if how = 2 then some 64 else none
theorem zero80 (w : World) : (zeroValue 80).run Try.prog w = .ok .nilFunc w := by
  have h : (Try.prog.info? 80).map (fun i => (i.zero, i.size)) = some (some .nilFunc, 1) := by kernel_rfl
  exact run_zeroValue_of h w
def wayV (k : Int) : Value := match wayOf k with | some f => .func (.func f) #[] #[] | none => .nilFunc
theorem run_ways {w : World} {r : Nat} (h : WaysAt w r) (k : Int) : (Instr.lookup 81 (.map (some r)) (.int .i64 k) false).run Try.prog w = .ok (wayV k) w := by
  have hf := run_findKey w k ways
  have hz : (zeroValue 80).run Try.prog w = .ok .nilFunc w := zero80 w
  have hc : ∀ b, (Instr.checkKey b 10000 3 (.int .i64 k)).run Try.prog w = .ok () w := fun b => run_checkKey_int w b k
  simp only [Instr.lookup, Sem.run_bind, run_underlying under81, Result.andThen_ok, getMap h, Sem.run_pure, hc, List.toList_toArray, hf]
  by_cases h1 : k = 1
  · subst h1; simp [ways, wayV, wayOf]
  · by_cases h2 : k = 2
    · subst h2; simp [ways, wayV, wayOf]
    · by_cases h3 : k = 3
      · subst h3; simp [ways, wayV, wayOf]
      · simp [ways, wayV, wayOf, h1, h2, h3, hz]

set_option maxHeartbeats 1000000 in
set_option maxRecDepth 100000 in
theorem first_any (x y : Res) (w : World) : Calls Try.prog 63 #[.agg x.cells.toArray, .agg y.cells.toArray] w fun e w' => e = .returned (.agg x.cells.toArray) ∧ Keep [] w w' := by
  obtain ⟨p, hp⟩ : ∃ p, w.heap.size = p := ⟨_, rfl⟩
  obtain ⟨W, hW⟩ : ∃ W, (w.alloc (.cells x.cells.toArray 39)).alloc (.cells y.cells.toArray 39) = W := ⟨_, rfl⟩
  have BX : Blk W p x.cells.toArray 39 := by rw [← hW, ← hp]; exact (Blk.new w _ 39).alloc _
  have BY : Blk W (p + 1) y.cells.toArray 39 := by rw [← hW, ← hp]; exact Blk.new' _ _ 39 (by simp)
  have kW : Keep [] w W := by rw [← hW]; exact ((Keep.refl [] w).alloc _).alloc _
  have hs : p + 1 + 1 = W.heap.size := by rw [← hW, ← hp]; simp
  have r1 := (rangeAt_of_blk (BX.alloc (.cells Try.zeroCells39 39)))
  have HW := Lib.hid hW
  clear hW BX BY
  go_enter Try.func63, Try.ntmps63
  go_upto_region 1 with fail
  rw [HW.out]
  go_wp2_with (first
    | (refine wpList_load_mid rfl 39 (.tmp 2) rfl (p) 0 rfl x.cells _ r1 Try.underlying39 rfl (hi39 x) ?_)
    | (refine wpList_store_last rfl 39 (.tmp 4) (.tmp 5) rfl W.heap.size Try.zeroCells39 x.cells.toArray rfl rfl rfl (hi39 x) (hz39 x) (res_all x) ?_)
    | fail)
  exact bodyPost_ret (results_cell_row rfl _ _ W.heap.size 39 x.cells.toArray (0, 0) _ rfl (Blk.new W _ 39).hp Try.underlying39 rfl (hi39 x)) rfl ⟨rfl, kW.alloc _⟩

set_option maxHeartbeats 1000000 in
set_option maxRecDepth 100000 in
theorem second_any (x y : Res) (w : World) : Calls Try.prog 64 #[.agg x.cells.toArray, .agg y.cells.toArray] w fun e w' => e = .returned (.agg y.cells.toArray) ∧ Keep [] w w' := by
  obtain ⟨p, hp⟩ : ∃ p, w.heap.size = p := ⟨_, rfl⟩
  obtain ⟨W, hW⟩ : ∃ W, (w.alloc (.cells x.cells.toArray 39)).alloc (.cells y.cells.toArray 39) = W := ⟨_, rfl⟩
  have BX : Blk W p x.cells.toArray 39 := by rw [← hW, ← hp]; exact (Blk.new w _ 39).alloc _
  have BY : Blk W (p + 1) y.cells.toArray 39 := by rw [← hW, ← hp]; exact Blk.new' _ _ 39 (by simp)
  have kW : Keep [] w W := by rw [← hW]; exact ((Keep.refl [] w).alloc _).alloc _
  have hs : p + 1 + 1 = W.heap.size := by rw [← hW, ← hp]; simp
  have r1 := (rangeAt_of_blk (BY.alloc (.cells Try.zeroCells39 39)))
  have HW := Lib.hid hW
  clear hW BX BY
  go_enter Try.func64, Try.ntmps64
  go_upto_region 1 with fail
  rw [HW.out]
  go_wp2_with (first
    | (refine wpList_load_mid rfl 39 (.tmp 3) rfl (p + 1) 0 rfl y.cells _ r1 Try.underlying39 rfl (hi39 y) ?_)
    | (refine wpList_store_last rfl 39 (.tmp 4) (.tmp 5) rfl W.heap.size Try.zeroCells39 y.cells.toArray rfl rfl rfl (hi39 y) (hz39 y) (res_all y) ?_)
    | fail)
  exact bodyPost_ret (results_cell_row rfl _ _ W.heap.size 39 y.cells.toArray (0, 0) _ rfl (Blk.new W _ 39).hp Try.underlying39 rfl (hi39 y)) rfl ⟨rfl, kW.alloc _⟩

end Go.Proofs.Ytjdkeabimcajlaa
