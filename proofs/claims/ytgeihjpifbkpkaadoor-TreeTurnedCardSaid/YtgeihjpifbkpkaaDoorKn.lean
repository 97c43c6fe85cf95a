/- known: the program writes and reads a tree of the document's. -/
import Derived.Test.YtgeihjpifbkpkaaDoorRf
import Derived.Test.YtgeihjpifbkpkaaDoorEn
import Derived.Great.BuildSlice
set_option linter.unusedVariables false
set_option linter.unusedSimpArgs false
namespace Go.Proofs.YtgeihjpifbkpkaaDoor
open Go.RowKit
theorem wpList_built1 {P : Program} {ops : Array Oper} {rest : List Oper} {o : Oper} {a : Act} {w : World} {Q : Exit → Act → World → Prop} (hg : o.guard = none) (t : TypeId) (i : Nat) (x : Operand) (ho : o.op = .build t #[(i, x)]) (u : Value) (hx : a.eval x = u) (cells : Array Value) (hb : P.built t [(i, u)] = some cells)
    (h : wpList P ops Q rest (a.put o.dst (.agg cells)) w) : wpList P ops Q (o :: rest) a w := by
  have e : ((#[(i, x)] : Array (Nat × Operand)).map fun (i, x) => (i, a.eval x)).toList = [(i, u)] := by simp [hx]
  refine wpList_build hg t #[(i, x)] ho (by rw [e, hb]; rfl) ?_
  rw [e, hb]; exact h
theorem wpList_built2 {P : Program} {ops : Array Oper} {rest : List Oper} {o : Oper} {a : Act} {w : World} {Q : Exit → Act → World → Prop} (hg : o.guard = none) (t : TypeId) (i j : Nat) (x y : Operand) (ho : o.op = .build t #[(i, x), (j, y)]) (u v : Value) (hx : a.eval x = u) (hy : a.eval y = v) (cells : Array Value) (hb : P.built t [(i, u), (j, v)] = some cells)
    (h : wpList P ops Q rest (a.put o.dst (.agg cells)) w) : wpList P ops Q (o :: rest) a w := by
  have e : ((#[(i, x), (j, y)] : Array (Nat × Operand)).map fun (i, x) => (i, a.eval x)).toList = [(i, u), (j, v)] := by simp [hx, hy]
  refine wpList_build hg t #[(i, x), (j, y)] ho (by rw [e, hb]; rfl) ?_
  rw [e, hb]; exact h
theorem wpList_built3 {P : Program} {ops : Array Oper} {rest : List Oper} {o : Oper} {a : Act} {w : World} {Q : Exit → Act → World → Prop} (hg : o.guard = none) (t : TypeId) (i j k : Nat) (x y z : Operand) (ho : o.op = .build t #[(i, x), (j, y), (k, z)]) (u v s : Value) (hx : a.eval x = u) (hy : a.eval y = v) (hz : a.eval z = s) (cells : Array Value) (hb : P.built t [(i, u), (j, v), (k, s)] = some cells)
    (h : wpList P ops Q rest (a.put o.dst (.agg cells)) w) : wpList P ops Q (o :: rest) a w := by
  have e : ((#[(i, x), (j, y), (k, z)] : Array (Nat × Operand)).map fun (i, x) => (i, a.eval x)).toList = [(i, u), (j, v), (k, s)] := by simp [hx, hy, hz]
  refine wpList_build hg t #[(i, x), (j, y), (k, z)] ho (by rw [e, hb]; rfl) ?_
  rw [e, hb]; exact h
/-- An id whose first byte is c. -/
def idOne (c : UInt8) : List UInt8 := c :: List.replicate 31 0
theorem built_id7 : Tryd.prog.built 35 [(0, .int .u8 7)] = some (bs (idOne 7)).toArray := by kernel_rfl
def entA : Ent := ⟨⟨#[97]⟩, 1, idOne 7, by simp [idOne]⟩
theorem built_entA : Tryd.prog.built 37 [(0, .string ⟨#[97]⟩), (1, .int .i64 1), (2, .agg (bs (idOne 7)).toArray)] = some entA.cells.toArray := by kernel_rfl
theorem isT_A : isT [entA] = true := by decide +kernel
theorem enc_A : encX [entA] = [84, 1, 1, 1, 97, 7] ++ List.replicate 31 0 := by unfold encX; rw [if_pos isT_A]; decide +kernel
theorem encC_A : encC [entA] = 0 := by unfold encC; rw [if_pos isT_A]
theorem par_A : parT [84, 0] = [] ∧ parC [84, 0] = 0 := by
  refine par_yes (l := []) ?_
  rw [par_ref]; decide +kernel
theorem name_1 : nameB ⟨#[46, 46, 97]⟩ = true := by decide +kernel
theorem name_2 : nameB ⟨#[46, 46]⟩ = false := by decide +kernel
theorem lit1 (w : World) (x : Ent) (hx : x.name.size ≤ 9223372036854775807) : EsIn (w.alloc (.cells x.cells.toArray 37)) (some ⟨w.heap.size, 0, none⟩) 1 1 [x] :=
  ⟨rfl, by rw [cellsOf_one]; exact Rd.of_blk (Blk.new w _ 37) 0 (fun j v hj => by rw [Nat.zero_add]; exact hj), Nat.le_refl _, fun h => by (cases h), by omega, by omega, fun y hy => by obtain rfl := List.mem_singleton.1 hy; exact hx⟩
set_option maxHeartbeats 2000000 in
set_option maxRecDepth 100000 in
theorem known_any (w : World) (hT : Tabs w) : Calls Tryd.prog 10 #[] w fun e w' => e = .returned (.bool true) ∧ Keep [] w w' := by
  have EN := Lib.hid (fun W h t => by have := encode_any (some ⟨w.heap.size, 0, none⟩) 1 1 [entA] W h t; rwa [enc_A, encC_A] at this : ∀ W, EsIn W (some ⟨w.heap.size, 0, none⟩) 1 1 [entA] → Tabs W → Calls Tryd.prog 14 #[.slice (some ⟨w.heap.size, 0, none⟩) 1 1] W (GiveE W ([84, 1, 1, 1, 97, 7] ++ List.replicate 31 0) 0))
  have hk1 : Keep [] w (w.alloc (.cells entA.cells.toArray 37)) := (Keep.refl [] w).alloc _
  have hl1 := lit1 w entA (by decide)
  obtain ⟨W1, hW1⟩ : ∃ W, w.alloc (.cells entA.cells.toArray 37) = W := ⟨_, rfl⟩
  obtain ⟨p, hp⟩ : ∃ p, w.heap.size = p := ⟨_, rfl⟩
  rw [hW1] at hk1 hl1
  rw [hp] at hl1 EN
  have HW1 := Lib.hid hW1
  have HP := Lib.hid hp
  clear hW1 hp
  go_enter Tryd.func10, Tryd.ntmps10
  go_upto_region 2 with (first
    | (refine wpList_built1 rfl 35 0 (.const (.int .u8 7)) rfl (.int .u8 7) rfl (bs (idOne 7)).toArray built_id7 ?_)
    | (refine wpList_built3 rfl 37 0 1 2 (.const (.string ⟨#[97]⟩)) (.const (.int .i64 1)) (.tmp 6) rfl (.string ⟨#[97]⟩) (.int .i64 1) (.agg (bs (idOne 7)).toArray) rfl rfl rfl entA.cells.toArray built_entA ?_)
    | (refine wpList_build1 rfl 24 37 (.tmp 7) rfl entA.cells.toArray rfl _ 34 56 Tryd.underlying24 info37 (by simp [entA.len]) (by omega) (by omega) ?_; rw [HW1.out, HP.out])
    | (go_at_call 14; refine (EN.out _ hl1 (hT.keep hk1)).mono ?_; rintro e w2 ⟨a, n, c, rfl, hn, hs, hf, hm, k2⟩)
    | fail)
  obtain rfl : n = 37 := by rw [← hn]; rfl
  obtain ⟨b, off, rfl, c0⟩ := hs.rd.at (k := 0) (by decide)
  obtain ⟨b', off', e', c5⟩ := hs.rd.at (k := 5) (by decide)
  obtain ⟨rfl, rfl⟩ : b = b' ∧ off = off' := by simpa [sAddr] using e'
  have c0 : w2.cell? ⟨b, off, none⟩ = some (.int .u8 84) := c0
  have c5 : w2.cell? ⟨b, off + 5, none⟩ = some (.int .u8 7) := c5
  have k3 : Keep [] w2 (w2.alloc (.cells #[.int .u8 84, .int .u8 0] 5)) := (Keep.refl [] w2).alloc _
  have r3 : Rd (w2.alloc (.cells #[.int .u8 84, .int .u8 0] 5)) (some ⟨w2.heap.size, 0, none⟩) (bs [84, 0]) := Rd.made _ _ _ _ _ _ rfl rfl
  have hT3 := ((hT.keep hk1).keep k2).keep k3
  clear hs hf e' hn EN
  go_upto_region 3 with (first
    | (go_at_call 19; refine (parse_any _ 2 2 [84, 0] _ rfl (by simp) r3 (by omega) hT3).mono ?_; rw [par_A.1, par_A.2]; rintro e w4 ⟨a4, n4, rfl, s4, f4, k4⟩)
    | fail)
  have k24 := k3.trans' k4
  have c0' := k24.cell c0 (by simp)
  have c5' := k24.cell c5 (by simp)
  have kk := (hk1.trans' k2).trans' k24
  go_wp2_with (first
    | (go_at_call 11; refine (valid_any ⟨#[46, 46]⟩ _ (by decide) (hT.keep k5)).mono ?_; rw [name_2]; rintro e w6 ⟨rfl, k6⟩)
    | (go_at_call 11; refine (valid_any ⟨#[46, 46, 97]⟩ _ (by decide) (hT.keep kk)).mono ?_; rw [name_1]; rintro e w5 ⟨rfl, k5⟩; have k5 := kk.trans' k5)
    | fail)
  go_returns
  exact ⟨rfl, k5.trans' k6⟩
end Go.Proofs.YtgeihjpifbkpkaaDoor
