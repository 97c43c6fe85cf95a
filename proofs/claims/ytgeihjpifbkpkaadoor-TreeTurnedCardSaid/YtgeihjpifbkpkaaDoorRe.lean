/- An entry in memory; lists of entries; two entries compared. -/
import Derived.Test.YtgeihjpifbkpkaaDoorVr
import Derived.Deep.DrawnRows
import Derived.Deep.MidRow
import Derived.Deep.WholeRow
import Derived.Stop.BytesEq
set_option linter.unusedVariables false
set_option linter.unusedSimpArgs false
namespace Go.Proofs.YtgeihjpifbkpkaaDoor
open Go.RowKit

/-- An entry: its name, its kind, its id. -/
structure Ent where
  name : ByteArray
  kind : Int
  id : List UInt8
  li : id.length = 32
theorem Ent.eq_iff (x y : Ent) : x = y ↔ x.name = y.name ∧ x.kind = y.kind ∧ x.id = y.id := by
  cases x; cases y; simp
instance : DecidableEq Ent := fun x y => decidable_of_iff _ (Ent.eq_iff x y).symm
/-- Its cells. -/
def Ent.cells (x : Ent) : List Value := .string x.name :: .int .i64 x.kind :: bs x.id
theorem Ent.len (x : Ent) : x.cells.length = 34 := by simp [Ent.cells, x.li]
theorem Ent.one (x : Ent) : ∀ v ∈ x.cells, v.oneCell' = true := by
  intro v hv
  simp only [Ent.cells, List.mem_cons] at hv
  rcases hv with rfl | rfl | h
  · rfl
  · rfl
  · exact bs_one _ v h
/-- The cells of a list of them. -/
def cellsOf (l : List Ent) : List Value := l.flatMap Ent.cells
theorem cellsOf_nil : cellsOf [] = [] := rfl
theorem cellsOf_append (l m : List Ent) : cellsOf (l ++ m) = cellsOf l ++ cellsOf m := List.flatMap_append
theorem cellsOf_one (x : Ent) : cellsOf [x] = x.cells := by simp [cellsOf]
theorem cellsOf_len (l : List Ent) : (cellsOf l).length = l.length * 34 := by
  induction l with
  | nil => rfl
  | cons x l ih => rw [cellsOf, List.flatMap_cons, List.length_append, Ent.len, ← cellsOf, ih, List.length_cons]; omega
theorem cellsOf_all (l : List Ent) : ∀ v ∈ cellsOf l, v.oneCell' = true := fun v hv => by
  obtain ⟨x, _, hx⟩ := List.mem_flatMap.1 hv
  exact x.one v hx
theorem cellsOf_get {l : List Ent} {i : Nat} {x : Ent} (h : l[i]? = some x) {j : Nat} (hj : j < 34) : (cellsOf l)[i * 34 + j]? = x.cells[j]? := by
  obtain ⟨hi, e⟩ := List.getElem?_eq_some_iff.1 h
  have hs : l = l.take i ++ x :: l.drop (i + 1) := by rw [← e, List.getElem_cons_drop, List.take_append_drop]
  have hl : (cellsOf (l.take i)).length = i * 34 := by rw [cellsOf_len, List.length_take, Nat.min_eq_left (by omega)]
  rw [hs, cellsOf_append, List.getElem?_append_right (by rw [hl]; omega), hl, Nat.add_sub_cancel_left, cellsOf, List.flatMap_cons, List.getElem?_append_left (by rw [Ent.len]; exact hj)]
theorem cells_split {l : List Ent} {p : Nat} {y : Ent} (h : l[p]? = some y) : cellsOf l = cellsOf (l.take p) ++ (y.cells ++ cellsOf (l.drop (p + 1))) := by
  obtain ⟨hi, e⟩ := List.getElem?_eq_some_iff.1 h
  conv => lhs; rw [show l = l.take p ++ ([y] ++ l.drop (p + 1)) by rw [← e]; simp [List.getElem_cons_drop]]
  rw [cellsOf_append, cellsOf_append, cellsOf_one]
theorem cellsOf_set {l : List Ent} {i : Nat} {x : Ent} (h : l[i]? = some x) (y : Ent) : cellsOf (l.set i y) = cellsOf (l.take i) ++ (y.cells ++ cellsOf (l.drop (i + 1))) := by
  obtain ⟨hi, e⟩ := List.getElem?_eq_some_iff.1 h
  rw [List.set_eq_take_append_cons_drop, if_pos hi, show y :: l.drop (i + 1) = [y] ++ l.drop (i + 1) from rfl, cellsOf_append, cellsOf_append, cellsOf_one]

/-- A slice of entries that lies somewhere. -/
structure EsIn (w : World) (a : Option Addr) (n c : Nat) (l : List Ent) : Prop where
  hlen : l.length = n
  rd : Rd w a (cellsOf l)
  hle : n ≤ c
  hnil : a = none → c = 0
  max : c ≤ 9223372036854775807
  short : n * 56 ≤ 140737488351232
  names : ∀ x ∈ l, x.name.size ≤ 9223372036854775807
theorem EsIn.keep {w w' : World} {a : Option Addr} {n c : Nat} {l : List Ent} {S : List Nat} (h : EsIn w a n c l) (k : Keep S w w') (hS : l ≠ [] → ablk a ∉ S) : EsIn w' a n c l :=
  ⟨h.hlen, h.rd.keep k (fun e => hS (by intro e'; subst e'; exact e rfl)), h.hle, h.hnil, h.max, h.short, h.names⟩
theorem EsIn.at {w : World} {a : Option Addr} {n c i : Nat} {l : List Ent} (h : EsIn w a n c l) (hi : i < n) : ∃ x b off, l[i]? = some x ∧ a = some ⟨b, off, none⟩ ∧ w.rangeAt b (off + i * 34) x.cells := by
  have hl := h.hlen
  have hg := List.getElem?_eq_getElem (l := l) (i := i) (by omega)
  rcases h.rd with e | ⟨b, off, e, hc⟩
  · have := congrArg List.length e
    rw [cellsOf_len] at this; simp at this; omega
  · refine ⟨_, b, off, hg, e, fun j v hv => ?_⟩
    have hj := (List.getElem?_eq_some_iff.1 hv).1
    rw [Ent.len] at hj
    rw [Nat.add_assoc]
    exact hc _ v ((cellsOf_get hg hj).trans hv)
theorem EsIn.lt {w : World} {a : Option Addr} {n c : Nat} {l : List Ent} (h : EsIn w a n c l) (hl : l ≠ []) : ablk a < w.heap.size := by
  have : 0 < (cellsOf l).length := by rw [cellsOf_len]; have := List.length_pos_iff.2 hl; omega
  exact h.rd.lt this
theorem EsIn.nil0 {w : World} {a : Option Addr} {n c : Nat} {l : List Ent} (h : EsIn w a n c l) (e : a = none) : c = 0 ∧ n = 0 := by have := h.hnil e; have := h.hle; omega
theorem rangeAt_keep {w w' : World} {S : List Nat} {b o : Nat} {cs : List Value} (h : w.rangeAt b o cs) (k : Keep S w w') (hb : b ∉ S) : w'.rangeAt b o cs := fun j v hv => k.cell (h j v hv) hb
theorem rangeAt_of_blk {w : World} {b : Nat} {cs : List Value} {t : TypeId} (h : Blk w b cs.toArray t) : w.rangeAt b 0 cs := fun j v hv => by
  rw [Nat.zero_add]; exact h.cell (by simpa using hv)
theorem rangeAt_name {w : World} {b o : Nat} {x : Ent} (h : w.rangeAt b o x.cells) : w.cell? ⟨b, o, none⟩ = some (.string x.name) := by
  have := h 0 _ rfl; rwa [Nat.add_zero] at this
theorem rangeAt_kind {w : World} {b o : Nat} {x : Ent} (h : w.rangeAt b o x.cells) : w.cell? ⟨b, o + 1, none⟩ = some (.int .i64 x.kind) := h 1 _ rfl
theorem rangeAt_id {w : World} {b o : Nat} {x : Ent} (h : w.rangeAt b o x.cells) : w.rangeAt b (o + 2) (bs x.id) := fun j v hv => by
  rw [Nat.add_assoc]
  refine h (2 + j) v ?_
  rw [Nat.add_comm 2 j]; exact hv

/-! ### Two of them compared -/
theorem eql_id (d : Nat) (xs ys : List UInt8) (hx : xs.length = 32) (hy : ys.length = 32) (w : World) : (Op.equalIn (d + 2) 35 (.agg (bs xs).toArray) (.agg (bs ys).toArray)).run Tryd.prog w = .ok (xs == ys) w :=
  run_equalIn_bytes (P := Tryd.prog) w d 35 5 32 Tryd.underlying35 Tryd.underlying5 (fun w => Tryd.sizeOf5 w) xs ys hx hy
theorem three_of_map {α β : Type} {f : α → β} {l : List α} {a b c : β} (h : l.map f = [a, b, c]) : ∃ x y z, l = [x, y, z] ∧ f x = a ∧ f y = b ∧ f z = c := by
  match l, h with
  | [x, y, z], h =>
    simp only [List.map_cons, List.map_nil, List.cons.injEq, and_true] at h
    exact ⟨x, y, z, rfl, h.1, h.2.1, h.2.2⟩
theorem fields37 : (Tryd.prog.fieldsOf 37).toList.map (fun f => (f.name == "_", f.type, f.offset)) = [(false, 9, 0), (false, 3, 1), (false, 35, 2)] := by kernel_rfl
theorem struct37 : Tryd.prog.underlying 37 = some (.struct (Tryd.prog.fieldsOf 37)) := by kernel_rfl
theorem held37 : Tryd.prog.stoodInHeld 37 = false := by kernel_rfl
theorem part_name (z : Ent) (w : World) : (part 9 z.cells.toArray 0).run Tryd.prog w = .ok (.string z.name) w := by
  have an : (isAgg 9).run Tryd.prog w = .ok false w := by simp [isAgg, run_underlying Tryd.underlying9]
  have e : z.cells.toArray[0]? = some (.string z.name) := rfl
  simp only [part, Sem.run_bind, an, Result.andThen_ok, Bool.false_eq_true, if_false, e, Sem.run_pure]
theorem part_kind (z : Ent) (w : World) : (part 3 z.cells.toArray 1).run Tryd.prog w = .ok (.int .i64 z.kind) w := by
  have an : (isAgg 3).run Tryd.prog w = .ok false w := by simp [isAgg, run_underlying Tryd.underlying3]
  have e : z.cells.toArray[1]? = some (.int .i64 z.kind) := rfl
  simp only [part, Sem.run_bind, an, Result.andThen_ok, Bool.false_eq_true, if_false, e, Sem.run_pure]
theorem part_id (z : Ent) (w : World) : (part 35 z.cells.toArray 2).run Tryd.prog w = .ok (.agg (bs z.id).toArray) w := by
  have ag : (isAgg 35).run Tryd.prog w = .ok true w := by simp [isAgg, run_underlying Tryd.underlying35]
  have e : z.cells.toArray.extract 2 34 = (bs z.id).toArray := by
    apply Array.ext'
    have h : (bs z.id).length = 32 := by rw [bs_length, z.li]
    simp only [Ent.cells, Array.toList_extract, List.extract, List.drop_succ_cons, List.drop_zero]
    rw [show 34 - 2 = (bs z.id).length by omega, List.take_length]
  simp only [part, Sem.run_bind, ag, Result.andThen_ok, if_true, Tryd.sizeOf35, Sem.run_pure, e]
theorem run_eqF {P : Program} {w : World} {d : Nat} {xs ys : Array Value} {f : Field} {fs : List Field} {u v : Value} {b : Bool} (hn : f.name ≠ "_") (hu : (part f.type xs f.offset).run P w = .ok u w) (hv : (part f.type ys f.offset).run P w = .ok v w)
    (he : (Op.equalIn d f.type u v).run P w = .ok b w) : (Op.eqFields d xs ys (f :: fs)).run P w = if b then (Op.eqFields d xs ys fs).run P w else .ok false w := by
  rw [Op.eqFields, if_pos hn]
  simp only [Sem.run_bind, hu, hv, he, Result.andThen_ok]
  cases b <;> simp
theorem str_eq (x y : ByteArray) : (x.toList == y.toList) = decide (x = y) := by
  rw [Bool.eq_iff_iff]
  simp only [beq_iff_eq, decide_eq_true_eq, ByteArray.toList_eq]
  constructor
  · intro h; cases x; cases y; simp_all
  · rintro rfl; rfl
theorem eql_ent (x y : Ent) (w : World) : (Op.equalIn 10000 37 (.agg x.cells.toArray) (.agg y.cells.toArray)).run Tryd.prog w = .ok (decide (x = y)) w := by
  obtain ⟨f0, f1, f2, hf, h0, h1, h2⟩ := three_of_map fields37
  simp only [Prod.mk.injEq, beq_eq_false_iff_ne] at h0 h1 h2
  obtain ⟨n0, t0, o0⟩ := h0
  obtain ⟨n1, t1, o1⟩ := h1
  obtain ⟨n2, t2, o2⟩ := h2
  rw [run_equalIn_struct (P := Tryd.prog) w 9999 37 x.cells.toArray y.cells.toArray struct37 held37, hf]
  have hd : decide (x = y) = (x.name.toList == y.name.toList && (x.kind == y.kind && x.id == y.id)) := by
    rw [Bool.eq_iff_iff, str_eq]; simp [Ent.eq_iff]
  rw [hd]
  rw [run_eqF (b := x.name.toList == y.name.toList) n0 (by rw [t0, o0]; exact part_name x w) (by rw [t0, o0]; exact part_name y w) (by rw [t0]; exact run_equalIn_string (P := Tryd.prog) w 9998 9 x.name y.name Tryd.underlying9)]
  rw [run_eqF (b := x.kind == y.kind) n1 (by rw [t1, o1]; exact part_kind x w) (by rw [t1, o1]; exact part_kind y w) (by rw [t1]; exact run_equalIn_int (P := Tryd.prog) w 9998 3 .i64 .i64 x.kind y.kind Tryd.underlying3)]
  rw [run_eqF (b := x.id == y.id) n2 (by rw [t2, o2]; exact part_id x w) (by rw [t2, o2]; exact part_id y w) (by rw [t2]; exact eql_id 9997 x.id y.id x.li y.li w)]
  rw [Op.eqFields]
  cases (x.name.toList == y.name.toList) <;> cases (x.kind == y.kind) <;> cases (x.id == y.id) <;> simp
theorem hi37 (x : Ent) : (Tryd.prog.info? 37).map (·.size) = some x.cells.length := by rw [x.len]; kernel_rfl
theorem hi35 {xs : List UInt8} (h : xs.length = 32) : (Tryd.prog.info? 35).map (·.size) = some (bs xs).length := by rw [bs_length, h]; kernel_rfl
theorem ent_all (x : Ent) : x.cells.toArray.all (·.oneCell') = true := all_oneCell_toArray x.one
theorem size37 : ∃ N : Nat, 34 = N ∧ ∀ w, (sizeOf 37).run Tryd.prog w = .ok N w := ⟨34, rfl, fun w => Tryd.sizeOf37 w⟩
theorem size35 : ∃ N : Nat, 32 = N ∧ ∀ w, (sizeOf 35).run Tryd.prog w = .ok N w := ⟨32, rfl, fun w => Tryd.sizeOf35 w⟩
theorem load_range {w : World} {b o N : Nat} {cs : List Value} (h : w.rangeAt b o cs) (hN : cs.length = N) : ∀ n, (loadCellsFrom ⟨b, o, none⟩ 0 N #[]).run Tryd.prog (w.drewN n) = .ok cs.toArray (w.drewN n) := fun n => by
  have := run_loadCells_list (P := Tryd.prog) (w.drewN n) ⟨b, o, none⟩ cs (fun j v hv => by rw [add_off]; exact h j v hv)
  rw [hN] at this
  exact this
theorem wpList_store_new {P : Program} {ops : Array Oper} {rest : List Oper} {op : Oper} {a : Act} {w : World} {Q : Exit → Act → World → Prop} (hgd : op.guard = none) (ty : TypeId) (x y : Operand) (ho : op.op = .store ty x y)
    (c c' : Array Value) (hx : a.eval x = .pointer (some ⟨w.heap.size, 0, none⟩)) (hy : a.eval y = .agg c')
    (hi : (P.info? ty).map (·.size) = some c'.size) (hz : c.size = c'.size) (h1 : c'.all (·.oneCell') = true)
    (h : wpList P ops Q rest (a.put op.dst undef) (w.alloc (.cells c' ty))) : wpList P ops Q (op :: rest) a (w.alloc (.cells c ty)) :=
  wpList_plain hgd fun _ hK => by
    unfold Oper.wp execOp
    simp only [ho, hx, hy, Sem.run_bind, Sem.run_pure, Result.andThen_ok, run_storeAt_new w ty c c' hi hz h1]
    exact hK _ _ h
theorem wpList_store_last {P : Program} {ops : Array Oper} {rest : List Oper} {op : Oper} {a : Act} {w : World} {Q : Exit → Act → World → Prop} (hgd : op.guard = none) (ty : TypeId) (x y : Operand) (ho : op.op = .store ty x y)
    (b : Nat) (c c' : Array Value) (hx : a.eval x = .pointer (some ⟨b, 0, none⟩)) (hb : b = w.heap.size) (hy : a.eval y = .agg c')
    (hi : (P.info? ty).map (·.size) = some c'.size) (hz : c.size = c'.size) (h1 : c'.all (·.oneCell') = true)
    (h : wpList P ops Q rest (a.put op.dst undef) (w.alloc (.cells c' ty))) : wpList P ops Q (op :: rest) a (w.alloc (.cells c ty)) := by
  subst hb; exact wpList_store_new hgd ty x y ho c c' hx hy hi hz h1 h
section
variable {w w' : World} {S : List Nat} {b g : Nat} {c : Array Value} {t : TypeId}
theorem Blk.setRow (h : Blk w b c t) (c' : Array Value) : Blk (w.setRow b c') b c' t := setRow_heap w b c c' t (0, 0) h
theorem Blk.setRowOther (h : Blk w b c t) (hb : b ≠ g) (c' : Array Value) : Blk (w.setRow g c') b c t := h.of_eq (setRow_other w g b c' (by omega))
theorem Keep.setRow (h : Keep S w w') (hb : g ∈ S ∨ w.heap.size ≤ g) (c' : Array Value) : Keep S w (w'.setRow g c') :=
  h.trans (S := S) (T := [g]) ⟨rfl, rfl, rfl, by simp, fun k _ hk => setRow_other w' g k _ (by simpa using hk)⟩ (by intro x hx; simp only [List.mem_singleton] at hx; subst hx; exact hb)
end
/-- A load whose guard lets it by. -/
theorem wpList_load_mid_w {P : Program} {ops : Array Oper} {rest : List Oper} {op : Oper} {a : Act} {w : World} {Q : Exit → Act → World → Prop} (ty : TypeId) (x : Operand) (ho : op.op = .load ty x) (hw : Region.wanted op (yielded ops a.tmps) = true)
    (b o : Nat) (hx : a.eval x = .pointer (some ⟨b, o, none⟩)) (cs : List Value) (d : TypeDesc) (hc : w.rangeAt b o cs)
    (hu : P.underlying ty = some d) (hd : d.isRow = true) (hi : (P.info? ty).map (·.size) = some cs.length)
    (h : wpList P ops Q rest (a.put op.dst (.agg cs.toArray)) w) : wpList P ops Q (op :: rest) a w := by
  unfold wpList
  rw [if_pos hw]
  exact Or.inl (wp_load_mid ty x ho b o hx cs d hc hu hd hi h)

end Go.Proofs.YtgeihjpifbkpkaaDoor
