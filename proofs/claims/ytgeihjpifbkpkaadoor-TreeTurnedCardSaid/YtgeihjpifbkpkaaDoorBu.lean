/- A slice literal of one aggregate. No program in sight. -/
import Derived.Test.YtgeihjpifbkpkaaDoorCl
import Derived.Great.BuildSlice
set_option linter.unusedVariables false
set_option linter.unusedSimpArgs false
namespace Go.Proofs.YtgeihjpifbkpkaaDoor
open Go.RowKit

theorem set_all : ∀ (cs : List Value) (k : Nat) (arr : Array Value), k + cs.length ≤ arr.size →
    ((cs.zipIdx k).foldl (fun acc (x : Value × Nat) => acc.setIfInBounds (0 * cs.length + x.2) x.1) arr).toList = arr.toList.take k ++ cs ++ arr.toList.drop (k + cs.length) := by
  intro cs
  have key : ∀ (L : Nat) (cs : List Value) (k : Nat) (arr : Array Value), k + cs.length ≤ arr.size → ((cs.zipIdx k).foldl (fun acc (x : Value × Nat) => acc.setIfInBounds (0 * L + x.2) x.1) arr).toList = arr.toList.take k ++ cs ++ arr.toList.drop (k + cs.length) := by
    intro L cs
    induction cs with
    | nil => intro k arr h; simp
    | cons v rest ih =>
      intro k arr h
      simp only [List.zipIdx_cons, List.foldl_cons, Nat.zero_mul, Nat.zero_add] at ih ⊢
      rw [ih (k + 1) (arr.setIfInBounds k v) (by simp at h ⊢; omega)]
      have e := list_seg_step arr.toList k v rest (by simp at h ⊢; omega)
      simpa [Array.toList_setIfInBounds] using e
  exact key _ cs
theorem fill_one (cs arr : Array Value) (h : cs.size = arr.size) : Instr.fill (fun i => some (i * arr.size, arr.size)) arr [(0, .agg cs)] = some cs := by
  have hs := set_all cs.toList 0 arr (by simp [h])
  have e : (cs.zipIdx.foldl (fun acc (x : Value × Nat) => acc.setIfInBounds (0 * arr.size + x.2) x.1) arr).toList = ((cs.toList.zipIdx 0).foldl (fun acc (x : Value × Nat) => acc.setIfInBounds (0 * cs.toList.length + x.2) x.1) arr).toList := by
    rw [← Array.foldl_toList, Array.toList_zipIdx]; simp
  have e2 := e.trans hs
  have e3 : cs.zipIdx.foldl (fun acc (x : Value × Nat) => acc.setIfInBounds (0 * arr.size + x.2) x.1) arr = cs := by
    apply Array.ext'; rw [e2]; simp [h]
  have c1 : (decide ((Value.agg cs).cells.size ≠ arr.size) || decide (0 * arr.size + (Value.agg cs).cells.size > arr.size)) = false := by simp [Value.cells, h]
  unfold Instr.fill
  simp only [c1, Bool.false_eq_true, if_false]
  unfold Instr.fill
  exact congrArg some e3
theorem wpList_build1 {P : Program} {ops : Array Oper} {rest : List Oper} {o : Oper} {a : Act} {w : World} {Q : Exit → Act → World → Prop} (hg : o.guard = none) (t e : TypeId) (x : Operand) (ho : o.op = .buildSlice t 1 #[(0, x)])
    (cs : Array Value) (hx : a.eval x = .agg cs) (z : Value) (sz bytes : Nat) (hu : P.underlying t = some (.slice e)) (hinfo : (P.info? e).map (fun i => (i.zero, i.size, i.bytes)) = some (some z, sz, bytes)) (hsz : cs.size = sz) (h0 : 0 < sz) (h1 : sz ≤ 1000)
    (h : wpList P ops Q rest (a.put o.dst (.slice (some ⟨w.heap.size, 0, none⟩) 1 1)) (w.alloc (.cells cs e))) : wpList P ops Q (o :: rest) a w := by
  obtain ⟨i, hi, hz, hs, hb⟩ := info_parts hinfo
  refine wpList_buildSlice hg t e 1 #[(0, x)] ho cs i z hu hi hz (by rw [hs]; omega) (by rw [hs]; omega) ?_ h
  have hl : ((Array.range (1 * i.size)).map (fun j => z.cells[j % z.cells.size]!)).size = i.size := by simp
  have := fill_one cs ((Array.range (1 * i.size)).map (fun j => z.cells[j % z.cells.size]!)) (by rw [hl, hs, hsz])
  rw [hl] at this
  simpa [hx] using this
end Go.Proofs.YtgeihjpifbkpkaaDoor
