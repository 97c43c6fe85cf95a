/- A result in memory; lists of results; two results compared. -/
import Derived.Test.YtjdkeabimcajlaaCm
import Derived.Deep.DrawnRows
import Derived.Deep.MidRow
import Derived.Stop.BytesEq
set_option linter.unusedVariables false
set_option linter.unusedSimpArgs false
namespace Go.Proofs.Ytjdkeabimcajlaa
open Go.RowKit

/-- A result: its action, its root, its code. -/
structure Res where
  act : List UInt8
  root : List UInt8
  code : Int
  la : act.length = 32
  lr : root.length = 32
theorem Res.eq_iff (x y : Res) : x = y ↔ x.act = y.act ∧ x.root = y.root ∧ x.code = y.code := by
  cases x; cases y; simp
instance : DecidableEq Res := fun x y => decidable_of_iff _ (Res.eq_iff x y).symm
/-- Its cells. -/
def Res.cells (x : Res) : List Value := bs x.act ++ (bs x.root ++ [.int .i64 x.code])
theorem Res.len (x : Res) : x.cells.length = 65 := by simp [Res.cells, x.la, x.lr]
theorem Res.one (x : Res) : ∀ v ∈ x.cells, v.oneCell' = true := by
  intro v hv
  simp only [Res.cells, List.mem_append, List.mem_singleton] at hv
  rcases hv with h | h | rfl
  · exact bs_one _ v h
  · exact bs_one _ v h
  · rfl
/-- The cells of a list of them. -/
def cellsOf (l : List Res) : List Value := l.flatMap Res.cells
theorem cellsOf_nil : cellsOf [] = [] := rfl
theorem cellsOf_append (l m : List Res) : cellsOf (l ++ m) = cellsOf l ++ cellsOf m := List.flatMap_append
theorem cellsOf_one (x : Res) : cellsOf [x] = x.cells := by simp [cellsOf]
theorem cellsOf_len (l : List Res) : (cellsOf l).length = l.length * 65 := by
  induction l with
  | nil => rfl
  | cons x l ih => rw [cellsOf, List.flatMap_cons, List.length_append, Res.len, ← cellsOf, ih, List.length_cons]; omega
theorem cellsOf_all (l : List Res) : ∀ v ∈ cellsOf l, v.oneCell' = true := fun v hv => by
  obtain ⟨x, _, hx⟩ := List.mem_flatMap.1 hv
  exact x.one v hx
theorem cellsOf_get {l : List Res} {i : Nat} {x : Res} (h : l[i]? = some x) {j : Nat} (hj : j < 65) : (cellsOf l)[i * 65 + j]? = x.cells[j]? := by
  obtain ⟨hi, e⟩ := List.getElem?_eq_some_iff.1 h
  have hs : l = l.take i ++ x :: l.drop (i + 1) := by rw [← e, List.getElem_cons_drop, List.take_append_drop]
  have hl : (cellsOf (l.take i)).length = i * 65 := by rw [cellsOf_len, List.length_take, Nat.min_eq_left (by omega)]
  rw [hs, cellsOf_append, List.getElem?_append_right (by rw [hl]; omega), hl, Nat.add_sub_cancel_left, cellsOf, List.flatMap_cons, List.getElem?_append_left (by rw [Res.len]; exact hj)]
theorem cellsOf_set {l : List Res} {i : Nat} {x : Res} (h : l[i]? = some x) (y : Res) : cellsOf (l.set i y) = (cellsOf l).take (i * 65) ++ (y.cells ++ (cellsOf l).drop (i * 65 + 65)) := by
  obtain ⟨hi, e⟩ := List.getElem?_eq_some_iff.1 h
  have hl : (cellsOf (l.take i)).length = i * 65 := by rw [cellsOf_len, List.length_take, Nat.min_eq_left (by omega)]
  have hs : cellsOf l = cellsOf (l.take i) ++ (x.cells ++ cellsOf (l.drop (i + 1))) := by
    conv => lhs; rw [show l = l.take i ++ ([x] ++ l.drop (i + 1)) by rw [← e]; simp [List.getElem_cons_drop]]
    rw [cellsOf_append, cellsOf_append, cellsOf_one]
  rw [List.set_eq_take_append_cons_drop, if_pos hi, show y :: l.drop (i + 1) = [y] ++ l.drop (i + 1) from rfl, cellsOf_append, cellsOf_append, cellsOf_one, hs]
  rw [← hl, List.take_left]
  congr 2
  rw [← List.append_assoc, show (cellsOf (l.take i)).length + 65 = (cellsOf (l.take i) ++ x.cells).length by rw [List.length_append, x.len], List.drop_left]

/-- A slice of results that lies somewhere. -/
structure RsIn (w : World) (a : Option Addr) (n c : Nat) (l : List Res) : Prop where
  hlen : l.length = n
  rd : Rd w a (cellsOf l)
  hle : n ≤ c
  hnil : a = none → c = 0
  max : c ≤ 9223372036854775807
  short : n * 72 ≤ 140737488351232
theorem RsIn.keep {w w' : World} {a : Option Addr} {n c : Nat} {l : List Res} {S : List Nat} (h : RsIn w a n c l) (k : Keep S w w') (hS : l ≠ [] → ablk a ∉ S) : RsIn w' a n c l :=
  ⟨h.hlen, h.rd.keep k (fun e => hS (by intro e'; subst e'; exact e rfl)), h.hle, h.hnil, h.max, h.short⟩
theorem RsIn.at {w : World} {a : Option Addr} {n c i : Nat} {l : List Res} (h : RsIn w a n c l) (hi : i < n) : ∃ x b off, l[i]? = some x ∧ a = some ⟨b, off, none⟩ ∧ w.rangeAt b (off + i * 65) x.cells := by
  have hl := h.hlen
  have hg := List.getElem?_eq_getElem (l := l) (i := i) (by omega)
  rcases h.rd with e | ⟨b, off, e, hc⟩
  · have := congrArg List.length e
    rw [cellsOf_len] at this; simp at this; omega
  · refine ⟨_, b, off, hg, e, fun j v hv => ?_⟩
    have hj := (List.getElem?_eq_some_iff.1 hv).1
    rw [Res.len] at hj
    rw [Nat.add_assoc]
    exact hc _ v ((cellsOf_get hg hj).trans hv)
theorem RsIn.lt {w : World} {a : Option Addr} {n c : Nat} {l : List Res} (h : RsIn w a n c l) (hl : l ≠ []) : ablk a < w.heap.size := by
  have : 0 < (cellsOf l).length := by rw [cellsOf_len]; have := List.length_pos_iff.2 hl; omega
  exact h.rd.lt this
theorem rangeAt_keep {w w' : World} {S : List Nat} {b o : Nat} {cs : List Value} (h : w.rangeAt b o cs) (k : Keep S w w') (hb : b ∉ S) : w'.rangeAt b o cs := fun j v hv => k.cell (h j v hv) hb

/-! ### Two of them compared -/
theorem underlyingID : Try.prog.underlying 37 = some (.array 32 5) := Try.underlying37
theorem eql_id (d : Nat) (xs ys : List UInt8) (hx : xs.length = 32) (hy : ys.length = 32) (w : World) : (Op.equalIn (d + 2) 37 (.agg (bs xs).toArray) (.agg (bs ys).toArray)).run Try.prog w = .ok (xs == ys) w :=
  run_equalIn_bytes (P := Try.prog) w d 37 5 32 Try.underlying37 Try.underlying5 (fun w => Try.sizeOf5 w) xs ys hx hy
theorem three_of_map {α β : Type} {f : α → β} {l : List α} {a b c : β} (h : l.map f = [a, b, c]) : ∃ x y z, l = [x, y, z] ∧ f x = a ∧ f y = b ∧ f z = c := by
  match l, h with
  | [x, y, z], h =>
    simp only [List.map_cons, List.map_nil, List.cons.injEq, and_true] at h
    exact ⟨x, y, z, rfl, h.1, h.2.1, h.2.2⟩
theorem fields39 : (Try.prog.fieldsOf 39).toList.map (fun f => (f.name == "_", f.type, f.offset)) = [(false, 37, 0), (false, 37, 32), (false, 3, 64)] := by kernel_rfl
theorem struct39 : Try.prog.underlying 39 = some (.struct (Try.prog.fieldsOf 39)) := by kernel_rfl
theorem held39 : Try.prog.stoodInHeld 39 = false := by kernel_rfl
theorem part_act (z : Res) (w : World) : (part 37 z.cells.toArray 0).run Try.prog w = .ok (.agg (bs z.act).toArray) w := by
  have ag : (isAgg 37).run Try.prog w = .ok true w := by simp [isAgg, run_underlying Try.underlying37]
  have e : z.cells.toArray.extract 0 32 = (bs z.act).toArray := by
    apply Array.ext'
    have h : (bs z.act).length = 32 := by rw [bs_length, z.la]
    simp only [Res.cells, Array.toList_extract, List.extract, Nat.sub_zero, List.drop_zero]
    rw [← h, List.take_left]
  simp only [part, Sem.run_bind, ag, Result.andThen_ok, if_true, Try.sizeOf37, Sem.run_pure, Nat.zero_add, e]
theorem part_root (z : Res) (w : World) : (part 37 z.cells.toArray 32).run Try.prog w = .ok (.agg (bs z.root).toArray) w := by
  have ag : (isAgg 37).run Try.prog w = .ok true w := by simp [isAgg, run_underlying Try.underlying37]
  have e : z.cells.toArray.extract 32 64 = (bs z.root).toArray := by
    apply Array.ext'
    have h : (bs z.act).length = 32 := by rw [bs_length, z.la]
    have h2 : (bs z.root).length = 32 := by rw [bs_length, z.lr]
    simp only [Res.cells, Array.toList_extract, List.extract]
    rw [← h, List.drop_left, show 64 - (bs z.act).length = (bs z.root).length by omega, List.take_left]
  simp only [part, Sem.run_bind, ag, Result.andThen_ok, if_true, Try.sizeOf37, Sem.run_pure, e]
theorem part_code (z : Res) (w : World) : (part 3 z.cells.toArray 64).run Try.prog w = .ok (.int .i64 z.code) w := by
  have an : (isAgg 3).run Try.prog w = .ok false w := by simp [isAgg, run_underlying Try.underlying3]
  have e : z.cells.toArray[64]? = some (.int .i64 z.code) := by
    have h : (bs z.act ++ bs z.root).length = 64 := by rw [List.length_append, bs_length, bs_length, z.la, z.lr]
    simp only [Res.cells, List.getElem?_toArray, ← List.append_assoc]
    rw [List.getElem?_append_right (by omega), h]; rfl
  simp only [part, Sem.run_bind, an, Result.andThen_ok, Bool.false_eq_true, if_false, e, Sem.run_pure]
theorem run_eqF {P : Program} {w : World} {d : Nat} {xs ys : Array Value} {f : Field} {fs : List Field} {u v : Value} {b : Bool} (hn : f.name ≠ "_") (hu : (part f.type xs f.offset).run P w = .ok u w) (hv : (part f.type ys f.offset).run P w = .ok v w)
    (he : (Op.equalIn d f.type u v).run P w = .ok b w) : (Op.eqFields d xs ys (f :: fs)).run P w = if b then (Op.eqFields d xs ys fs).run P w else .ok false w := by
  rw [Op.eqFields, if_pos hn]
  simp only [Sem.run_bind, hu, hv, he, Result.andThen_ok]
  cases b <;> simp
theorem eql_res (x y : Res) (w : World) : (Op.equalIn 10000 39 (.agg x.cells.toArray) (.agg y.cells.toArray)).run Try.prog w = .ok (decide (x = y)) w := by
  obtain ⟨f0, f1, f2, hf, h0, h1, h2⟩ := three_of_map fields39
  simp only [Prod.mk.injEq, beq_eq_false_iff_ne] at h0 h1 h2
  obtain ⟨n0, t0, o0⟩ := h0
  obtain ⟨n1, t1, o1⟩ := h1
  obtain ⟨n2, t2, o2⟩ := h2
  rw [run_equalIn_struct (P := Try.prog) w 9999 39 x.cells.toArray y.cells.toArray struct39 held39, hf]
  have hd : decide (x = y) = (x.act == y.act && (x.root == y.root && x.code == y.code)) := by
    rw [Bool.eq_iff_iff]; simp [Res.eq_iff]
  rw [hd]
  rw [run_eqF (b := x.act == y.act) n0 (by rw [t0, o0]; exact part_act x w) (by rw [t0, o0]; exact part_act y w) (by rw [t0]; exact eql_id 9997 x.act y.act x.la y.la w)]
  rw [run_eqF (b := x.root == y.root) n1 (by rw [t1, o1]; exact part_root x w) (by rw [t1, o1]; exact part_root y w) (by rw [t1]; exact eql_id 9997 x.root y.root x.lr y.lr w)]
  rw [run_eqF (b := x.code == y.code) n2 (by rw [t2, o2]; exact part_code x w) (by rw [t2, o2]; exact part_code y w) (by rw [t2]; exact run_equalIn_int (P := Try.prog) w 9998 3 .i64 .i64 x.code y.code Try.underlying3)]
  rw [Op.eqFields]
  cases (x.act == y.act) <;> cases (x.root == y.root) <;> cases (x.code == y.code) <;> simp
end Go.Proofs.Ytjdkeabimcajlaa
