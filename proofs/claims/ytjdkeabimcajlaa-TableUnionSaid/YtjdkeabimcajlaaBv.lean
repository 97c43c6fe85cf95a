/- A slice literal of two aggregates. No program in sight. -/
import Derived.Test.YtjdkeabimcajlaaOt
set_option linter.unusedVariables false
set_option linter.unusedSimpArgs false
namespace Go.Proofs.Ytjdkeabimcajlaa
open Go.RowKit

theorem set_from (o : Nat) : ∀ (cs : List Value) (k : Nat) (arr : Array Value), o + k + cs.length ≤ arr.size →
    ((cs.zipIdx k).foldl (fun acc (x : Value × Nat) => acc.setIfInBounds (o + x.2) x.1) arr).toList = arr.toList.take (o + k) ++ cs ++ arr.toList.drop (o + k + cs.length) := by
  intro cs
  induction cs with
  | nil => intro k arr h; simp
  | cons v rest ih =>
    intro k arr h
    simp only [List.zipIdx_cons, List.foldl_cons]
    rw [ih (k + 1) (arr.setIfInBounds (o + k) v) (by simp at h ⊢; omega)]
    have e := list_seg_step arr.toList (o + k) v rest (by simp at h ⊢; omega)
    simpa [Array.toList_setIfInBounds, Nat.add_assoc] using e
theorem set_block (o : Nat) (cs arr : Array Value) (h : o + cs.size ≤ arr.size) : (cs.zipIdx.foldl (fun acc (x : Value × Nat) => acc.setIfInBounds (o + x.2) x.1) arr) = (arr.toList.take o ++ cs.toList ++ arr.toList.drop (o + cs.size)).toArray := by
  apply Array.ext'
  rw [← Array.foldl_toList, Array.toList_zipIdx, set_from o cs.toList 0 arr (by simpa using h)]
  simp
theorem fill_two (xs ys arr : Array Value) (n : Nat) (hx : xs.size = n) (hy : ys.size = n) (h : arr.size = 2 * n) : Instr.fill (fun i => some (i * n, n)) arr [(0, .agg xs), (1, .agg ys)] = some (xs ++ ys) := by
  have e1 : xs.zipIdx.foldl (fun acc (x : Value × Nat) => acc.setIfInBounds (0 * n + x.2) x.1) arr = (xs.toList ++ arr.toList.drop n).toArray := by
    rw [set_block (0 * n) xs arr (by omega)]; simp [hx]
  have e2 : ys.zipIdx.foldl (fun acc (x : Value × Nat) => acc.setIfInBounds (1 * n + x.2) x.1) (xs.toList ++ arr.toList.drop n).toArray = xs ++ ys := by
    rw [set_block (1 * n) ys _ (by simp; omega)]
    have l1 : xs.toList.length = 1 * n := by simpa using hx
    have d1 : (xs.toList ++ arr.toList.drop n).drop (1 * n + ys.size) = [] := List.drop_eq_nil_of_le (by simp; omega)
    apply Array.ext'
    rw [List.toList_toArray, List.toList_toArray, d1, ← l1, List.take_left]; simp
  have c1 : (decide ((Value.agg xs).cells.size ≠ n) || decide (0 * n + (Value.agg xs).cells.size > arr.size)) = false := by simp [Value.cells, hx]; omega
  have c2 : (decide ((Value.agg ys).cells.size ≠ n) || decide (1 * n + (Value.agg ys).cells.size > (xs.toList ++ arr.toList.drop n).toArray.size)) = false := by simp [Value.cells, hx, hy]; omega
  unfold Instr.fill
  simp only [c1, Bool.false_eq_true, if_false]
  have e1' : (Value.agg xs).cells.zipIdx.foldl (fun acc (x : Value × Nat) => acc.setIfInBounds (0 * n + x.2) x.1) arr = (xs.toList ++ arr.toList.drop n).toArray := e1
  have e1'' : (Value.agg xs).cells.zipIdx.foldl (fun cs x => match x with | (c, j) => cs.setIfInBounds (0 * n + j) c) arr = (xs.toList ++ arr.toList.drop n).toArray := e1
  rw [e1'']
  unfold Instr.fill
  simp only [c2, Bool.false_eq_true, if_false]
  unfold Instr.fill
  exact congrArg some e2
theorem wpList_build2 {P : Program} {ops : Array Oper} {rest : List Oper} {o : Oper} {a : Act} {w : World} {Q : Exit → Act → World → Prop} (hg : o.guard = none) (t e : TypeId) (x y : Operand) (ho : o.op = .buildSlice t 2 #[(0, x), (1, y)])
    (xs ys : Array Value) (hx : a.eval x = .agg xs) (hy : a.eval y = .agg ys) (z : Value) (sz bytes : Nat) (hu : P.underlying t = some (.slice e)) (hinfo : (P.info? e).map (fun i => (i.zero, i.size, i.bytes)) = some (some z, sz, bytes)) (hsx : xs.size = sz) (hsy : ys.size = sz) (h0 : 0 < sz) (h1 : sz ≤ 1000)
    (h : wpList P ops Q rest (a.put o.dst (.slice (some ⟨w.heap.size, 0, none⟩) 2 2)) (w.alloc (.cells (xs ++ ys) e))) : wpList P ops Q (o :: rest) a w := by
  obtain ⟨i, hi, hz, hs, hb⟩ := info_parts hinfo
  refine wpList_buildSlice hg t e 2 #[(0, x), (1, y)] ho (xs ++ ys) i z hu hi hz (by rw [hs]; omega) (by rw [hs]; omega) ?_ h
  have := fill_two xs ys ((Array.range (2 * i.size)).map (fun j => z.cells[j % z.cells.size]!)) i.size (by rw [hs, hsx]) (by rw [hs, hsy]) (by simp)
  simpa [hx, hy] using this
end Go.Proofs.Ytjdkeabimcajlaa
