/- A block's sum and id (Weak), lists of them; a signature; two compared. -/
import Derived.Test.YtpocegdlobnhaaaIb
import Derived.Test.YtpocegdlobnhaaaChecked
import Derived.Deep.DrawnRows
import Derived.Deep.MidRow
import Derived.Deep.WholeRow
import Derived.Stop.BytesEq
import Derived.Great.Ranges
set_option linter.unusedVariables false
set_option linter.unusedSimpArgs false
set_option maxRecDepth 100000
namespace Go.Proofs.Ytpocegdlobnhaaa
open Go.RowKit

structure Wk where
  sum : Int
  id : List UInt8
  li : id.length = 32
theorem Wk.eq_iff (x y : Wk) : x = y ↔ x.sum = y.sum ∧ x.id = y.id := by
  cases x; cases y; simp
instance : DecidableEq Wk := fun x y => decidable_of_iff _ (Wk.eq_iff x y).symm
def Wk.cells (x : Wk) : List Value := .int .i64 x.sum :: bs x.id
theorem Wk.len (x : Wk) : x.cells.length = 33 := by simp [Wk.cells, x.li]
theorem Wk.one (x : Wk) : ∀ v ∈ x.cells, v.oneCell' = true := by
  intro v hv
  simp only [Wk.cells, List.mem_cons] at hv
  rcases hv with rfl | h
  · rfl
  · exact bs_one _ v h
def cellsW (l : List Wk) : List Value := l.flatMap Wk.cells
theorem cellsW_nil : cellsW [] = [] := rfl
theorem cellsW_append (l m : List Wk) : cellsW (l ++ m) = cellsW l ++ cellsW m := List.flatMap_append
theorem cellsW_one (x : Wk) : cellsW [x] = x.cells := by simp [cellsW]
theorem cellsW_len (l : List Wk) : (cellsW l).length = l.length * 33 := by
  induction l with
  | nil => rfl
  | cons x l ih => rw [cellsW, List.flatMap_cons, List.length_append, Wk.len, ← cellsW, ih, List.length_cons]; omega
theorem cellsW_all (l : List Wk) : ∀ v ∈ cellsW l, v.oneCell' = true := fun v hv => by
  obtain ⟨x, _, hx⟩ := List.mem_flatMap.1 hv
  exact x.one v hx
theorem cellsW_get {l : List Wk} {i : Nat} {x : Wk} (h : l[i]? = some x) {j : Nat} (hj : j < 33) : (cellsW l)[i * 33 + j]? = x.cells[j]? := by
  obtain ⟨hi, e⟩ := List.getElem?_eq_some_iff.1 h
  have hl : (cellsW (l.take i)).length = i * 33 := by rw [cellsW_len, List.length_take, Nat.min_eq_left (by omega)]
  have hs : cellsW l = cellsW (l.take i) ++ (x.cells ++ cellsW (l.drop (i + 1))) := by
    conv => lhs; rw [show l = l.take i ++ ([x] ++ l.drop (i + 1)) by rw [← e]; simp [List.getElem_cons_drop]]
    rw [cellsW_append, cellsW_append, cellsW_one]
  rw [hs, List.getElem?_append_right (by omega), hl, Nat.add_sub_cancel_left, List.getElem?_append_left (by rw [x.len]; exact hj)]
theorem cellsW_split {l : List Wk} {p : Nat} {y : Wk} (h : l[p]? = some y) : cellsW l = cellsW (l.take p) ++ (y.cells ++ cellsW (l.drop (p + 1))) := by
  obtain ⟨hi, e⟩ := List.getElem?_eq_some_iff.1 h
  conv => lhs; rw [show l = l.take p ++ ([y] ++ l.drop (p + 1)) by rw [← e]; simp [List.getElem_cons_drop]]
  rw [cellsW_append, cellsW_append, cellsW_one]
theorem cellsW_set {l : List Wk} {i : Nat} {x : Wk} (h : l[i]? = some x) (y : Wk) : cellsW (l.set i y) = cellsW (l.take i) ++ (y.cells ++ cellsW (l.drop (i + 1))) := by
  obtain ⟨hi, e⟩ := List.getElem?_eq_some_iff.1 h
  rw [List.set_eq_take_append_cons_drop, if_pos hi, show y :: l.drop (i + 1) = [y] ++ l.drop (i + 1) from rfl, cellsW_append, cellsW_append, cellsW_one]

/-- A slice of them that lies somewhere. -/
structure WsIn (w : World) (a : Option Addr) (n c : Nat) (l : List Wk) : Prop where
  hlen : l.length = n
  rd : Rd w a (cellsW l)
  hle : n ≤ c
  hnil : a = none → c = 0
  max : c ≤ 9223372036854775807
  short : n * 40 ≤ 140737488355328
theorem WsIn.keep {w w' : World} {a : Option Addr} {n c : Nat} {l : List Wk} {S : List Nat} (h : WsIn w a n c l) (k : Keep S w w') (hS : l ≠ [] → ablk a ∉ S) : WsIn w' a n c l :=
  ⟨h.hlen, h.rd.keep k (fun e => hS (by intro e'; subst e'; exact e rfl)), h.hle, h.hnil, h.max, h.short⟩
theorem WsIn.at {w : World} {a : Option Addr} {n c i : Nat} {l : List Wk} (h : WsIn w a n c l) (hi : i < n) : ∃ x b off, l[i]? = some x ∧ a = some ⟨b, off, none⟩ ∧ w.rangeAt b (off + i * 33) x.cells := by
  have hl := h.hlen
  have hg := List.getElem?_eq_getElem (l := l) (i := i) (by omega)
  rcases h.rd with e | ⟨b, off, e, hc⟩
  · have := congrArg List.length e
    rw [cellsW_len] at this; simp at this; omega
  · refine ⟨_, b, off, hg, e, fun j v hv => ?_⟩
    have hj := (List.getElem?_eq_some_iff.1 hv).1
    rw [Wk.len] at hj
    rw [Nat.add_assoc]
    exact hc _ v ((cellsW_get hg hj).trans hv)
theorem WsIn.lt {w : World} {a : Option Addr} {n c : Nat} {l : List Wk} (h : WsIn w a n c l) (hl : l ≠ []) : ablk a < w.heap.size := by
  have : 0 < (cellsW l).length := by rw [cellsW_len]; have := List.length_pos_iff.2 hl; omega
  exact h.rd.lt this
theorem WsIn.of_sl {w : World} {a : Option Addr} {n c : Nat} {l : List Wk} (s : Sl w 45 33 (.slice a n c) n (cellsW l)) (hl : l.length = n) (hk : n * 40 ≤ 140737488355328) : WsIn w a n c l := by
  obtain ⟨a', c', e, ea, hrd, hle, hm, hnil⟩ := s.form
  obtain ⟨rfl, rfl⟩ : a = a' ∧ c = c' := by simpa using e
  exact ⟨hl, hrd, hle, hnil, by simpa [maxLen] using hm, hk⟩
theorem rangeAt_keep {w w' : World} {S : List Nat} {b o : Nat} {cs : List Value} (h : w.rangeAt b o cs) (k : Keep S w w') (hb : b ∉ S) : w'.rangeAt b o cs := fun j v hv => k.cell (h j v hv) hb
theorem rangeAt_of_blk {w : World} {b : Nat} {cs : List Value} {t : TypeId} (h : Blk w b cs.toArray t) : w.rangeAt b 0 cs := fun j v hv => by
  rw [Nat.zero_add]; exact h.cell (by simpa using hv)
theorem rangeAt_sum {w : World} {b o : Nat} {x : Wk} (h : w.rangeAt b o x.cells) : w.cell? ⟨b, o, none⟩ = some (.int .i64 x.sum) := by
  have := h 0 _ rfl; rwa [Nat.add_zero] at this
theorem rangeAt_wid {w : World} {b o : Nat} {x : Wk} (h : w.rangeAt b o x.cells) : w.rangeAt b (o + 1) (bs x.id) := fun j v hv => by
  rw [Nat.add_assoc]
  refine h (1 + j) v ?_
  rw [Nat.add_comm 1 j]; exact hv

/-- A signature. -/
structure Sg where
  width : Int
  size : Int
  length : Int
  base : List UInt8
  blocks : List Wk
  lb : base.length = 32
theorem Sg.eq_iff (x y : Sg) : x = y ↔ x.width = y.width ∧ x.size = y.size ∧ x.length = y.length ∧ x.base = y.base ∧ x.blocks = y.blocks := by
  cases x; cases y; simp
instance : DecidableEq Sg := fun x y => decidable_of_iff _ (Sg.eq_iff x y).symm
/-- Its cells, the list of blocks at a. -/
def Sg.cells (s : Sg) (a : Option Addr) (n c : Nat) : List Value := .int .i64 s.width :: .int .i64 s.size :: .int .i64 s.length :: (bs s.base ++ [.slice a n c])
theorem Sg.len (s : Sg) (a : Option Addr) (n c : Nat) : (s.cells a n c).length = 36 := by simp [Sg.cells, s.lb]
theorem Sg.one (s : Sg) (a : Option Addr) (n c : Nat) : ∀ v ∈ s.cells a n c, v.oneCell' = true := by
  intro v hv
  simp only [Sg.cells, List.mem_cons, List.mem_append, List.not_mem_nil, or_false] at hv
  rcases hv with rfl | rfl | rfl | h | rfl
  · rfl
  · rfl
  · rfl
  · exact bs_one _ v h
  · rfl
theorem Sg.all (s : Sg) (a : Option Addr) (n c : Nat) : (s.cells a n c).toArray.all (·.oneCell') = true := all_oneCell_toArray (s.one a n c)
section
variable {w : World} {b : Nat} {s : Sg} {a : Option Addr} {n c : Nat}
theorem sg_get (j : Nat) (hj : j < 32) : (s.cells a n c)[3 + j]? = (bs s.base)[j]? := by
  show (Value.int .i64 s.width :: .int .i64 s.size :: .int .i64 s.length :: (bs s.base ++ [.slice a n c]))[3 + j]? = _
  rw [show 3 + j = j + 1 + 1 + 1 by omega, List.getElem?_cons_succ, List.getElem?_cons_succ, List.getElem?_cons_succ, List.getElem?_append_left (by rw [bs_length, s.lb]; exact hj)]
theorem sg_last : (s.cells a n c)[35]? = some (.slice a n c) := by
  show (Value.int .i64 s.width :: .int .i64 s.size :: .int .i64 s.length :: (bs s.base ++ [.slice a n c]))[32 + 1 + 1 + 1]? = _
  rw [List.getElem?_cons_succ, List.getElem?_cons_succ, List.getElem?_cons_succ, List.getElem?_append_right (by rw [bs_length, s.lb]; exact Nat.le_refl _), bs_length, s.lb]; rfl
theorem sg_width (h : Blk w b (s.cells a n c).toArray 29) : w.cell? ⟨b, 0, none⟩ = some (.int .i64 s.width) := h.cell rfl
theorem sg_size (h : Blk w b (s.cells a n c).toArray 29) : w.cell? ⟨b, 1, none⟩ = some (.int .i64 s.size) := h.cell rfl
theorem sg_length (h : Blk w b (s.cells a n c).toArray 29) : w.cell? ⟨b, 2, none⟩ = some (.int .i64 s.length) := h.cell rfl
theorem sg_blocks (h : Blk w b (s.cells a n c).toArray 29) : w.cell? ⟨b, 35, none⟩ = some (.slice a n c) := h.cell (by rw [List.getElem?_toArray]; exact sg_last)
theorem sg_base (h : Blk w b (s.cells a n c).toArray 29) : w.rangeAt b 3 (bs s.base) := fun j v hv => by
  have hj := (List.getElem?_eq_some_iff.1 hv).1
  rw [bs_length, s.lb] at hj
  exact h.cell (by rw [List.getElem?_toArray, sg_get j hj]; exact hv)
end
theorem hi45 (x : Wk) : (Try.prog.info? 45).map (·.size) = some x.cells.length := by rw [x.len]; kernel_rfl
theorem hi29 (s : Sg) (a : Option Addr) (n c : Nat) : (Try.prog.info? 29).map (·.size) = some (s.cells a n c).length := by rw [s.len]; kernel_rfl
theorem hi26 {xs : List UInt8} (h : xs.length = 32) : (Try.prog.info? 26).map (·.size) = some (bs xs).length := by rw [bs_length, h]; kernel_rfl
theorem hi25 {xs : List UInt8} (h : xs.length = 32) : (Try.prog.info? 25).map (·.size) = some (bs xs).length := by rw [bs_length, h]; kernel_rfl
theorem wk_all (x : Wk) : x.cells.toArray.all (·.oneCell') = true := all_oneCell_toArray x.one
theorem size45 : ∃ N : Nat, 33 = N ∧ ∀ w, (sizeOf 45).run Try.prog w = .ok N w := ⟨33, rfl, fun w => Try.sizeOf45 w⟩
theorem size29 : ∃ N : Nat, 36 = N ∧ ∀ w, (sizeOf 29).run Try.prog w = .ok N w := ⟨36, rfl, fun w => Try.sizeOf29 w⟩
theorem size26 : ∃ N : Nat, 32 = N ∧ ∀ w, (sizeOf 26).run Try.prog w = .ok N w := ⟨32, rfl, fun w => Try.sizeOf26 w⟩
theorem fields45 : (Try.prog.fieldsOf 45).toList.map (fun f => (f.name == "_", f.type, f.offset)) = [(false, 3, 0), (false, 26, 1)] := by kernel_rfl
theorem fields29 : (Try.prog.fieldsOf 29).toList.map (fun f => (f.name == "_", f.type, f.offset)) = [(false, 3, 0), (false, 3, 1), (false, 3, 2), (false, 26, 3), (false, 27, 35)] := by kernel_rfl
theorem struct45 : Try.prog.underlying 45 = some (.struct (Try.prog.fieldsOf 45)) := by kernel_rfl
theorem struct29 : Try.prog.underlying 29 = some (.struct (Try.prog.fieldsOf 29)) := by kernel_rfl
theorem held45 : Try.prog.stoodInHeld 45 = false := by kernel_rfl
theorem under27 : Try.prog.underlying 27 = some (.slice 45) := by kernel_rfl
/-! ### Two of them compared -/
theorem eql_id (d : Nat) (xs ys : List UInt8) (hx : xs.length = 32) (hy : ys.length = 32) (w : World) : (Op.equalIn (d + 2) 26 (.agg (bs xs).toArray) (.agg (bs ys).toArray)).run Try.prog w = .ok (xs == ys) w :=
  run_equalIn_bytes (P := Try.prog) w d 26 5 32 Try.underlying26 Try.underlying5 (fun w => Try.sizeOf5 w) xs ys hx hy
theorem two_of_map {α β : Type} {f : α → β} {l : List α} {a b : β} (h : l.map f = [a, b]) : ∃ x y, l = [x, y] ∧ f x = a ∧ f y = b := by
  match l, h with
  | [x, y], h =>
    simp only [List.map_cons, List.map_nil, List.cons.injEq, and_true] at h
    exact ⟨x, y, rfl, h.1, h.2⟩
theorem part_sum (z : Wk) (w : World) : (part 3 z.cells.toArray 0).run Try.prog w = .ok (.int .i64 z.sum) w := by
  have an : (isAgg 3).run Try.prog w = .ok false w := by simp [isAgg, run_underlying Try.underlying3]
  have e : z.cells.toArray[0]? = some (.int .i64 z.sum) := rfl
  simp only [part, Sem.run_bind, an, Result.andThen_ok, Bool.false_eq_true, if_false, e, Sem.run_pure]
theorem part_wid (z : Wk) (w : World) : (part 26 z.cells.toArray 1).run Try.prog w = .ok (.agg (bs z.id).toArray) w := by
  have ag : (isAgg 26).run Try.prog w = .ok true w := by simp [isAgg, run_underlying Try.underlying26]
  have e : z.cells.toArray.extract 1 33 = (bs z.id).toArray := by
    apply Array.ext'
    have h : (bs z.id).length = 32 := by rw [bs_length, z.li]
    simp only [Wk.cells, Array.toList_extract, List.extract, List.drop_succ_cons, List.drop_zero]
    rw [show 33 - 1 = (bs z.id).length by omega, List.take_length]
  simp only [part, Sem.run_bind, ag, Result.andThen_ok, if_true, Try.sizeOf26, Sem.run_pure, e]
theorem run_eqF {P : Program} {w : World} {d : Nat} {xs ys : Array Value} {f : Field} {fs : List Field} {u v : Value} {b : Bool} (hn : f.name ≠ "_") (hu : (part f.type xs f.offset).run P w = .ok u w) (hv : (part f.type ys f.offset).run P w = .ok v w)
    (he : (Op.equalIn d f.type u v).run P w = .ok b w) : (Op.eqFields d xs ys (f :: fs)).run P w = if b then (Op.eqFields d xs ys fs).run P w else .ok false w := by
  rw [Op.eqFields, if_pos hn]
  simp only [Sem.run_bind, hu, hv, he, Result.andThen_ok]
  cases b <;> simp
theorem eql_wk (x y : Wk) (w : World) : (Op.equalIn 10000 45 (.agg x.cells.toArray) (.agg y.cells.toArray)).run Try.prog w = .ok (decide (x = y)) w := by
  obtain ⟨f0, f1, hf, h0, h1⟩ := two_of_map fields45
  simp only [Prod.mk.injEq, beq_eq_false_iff_ne] at h0 h1
  obtain ⟨n0, t0, o0⟩ := h0
  obtain ⟨n1, t1, o1⟩ := h1
  rw [run_equalIn_struct (P := Try.prog) w 9999 45 x.cells.toArray y.cells.toArray struct45 held45, hf]
  have hd : decide (x = y) = (x.sum == y.sum && x.id == y.id) := by
    rw [Bool.eq_iff_iff]; simp [Wk.eq_iff]
  rw [hd]
  rw [run_eqF (b := x.sum == y.sum) n0 (by rw [t0, o0]; exact part_sum x w) (by rw [t0, o0]; exact part_sum y w) (by rw [t0]; exact run_equalIn_int (P := Try.prog) w 9998 3 .i64 .i64 x.sum y.sum Try.underlying3)]
  rw [run_eqF (b := x.id == y.id) n1 (by rw [t1, o1]; exact part_wid x w) (by rw [t1, o1]; exact part_wid y w) (by rw [t1]; exact eql_id 9997 x.id y.id x.li y.li w)]
  rw [Op.eqFields]
  cases (x.sum == y.sum) <;> cases (x.id == y.id) <;> simp
theorem load_range {w : World} {b o N : Nat} {cs : List Value} (h : w.rangeAt b o cs) (hN : cs.length = N) : ∀ n, (loadCellsFrom ⟨b, o, none⟩ 0 N #[]).run Try.prog (w.drewN n) = .ok cs.toArray (w.drewN n) := fun n => by
  have := run_loadCells_list (P := Try.prog) (w.drewN n) ⟨b, o, none⟩ cs (fun j v hv => by rw [add_off]; exact h j v hv)
  rw [hN] at this
  exact this
end Go.Proofs.Ytpocegdlobnhaaa
