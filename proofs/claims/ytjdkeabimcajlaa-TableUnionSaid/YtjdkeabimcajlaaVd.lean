/- Which lists of results are tables. -/
import Derived.Test.YtjdkeabimcajlaaLk
import Derived.Deep.WholeRow
set_option linter.unusedVariables false
set_option linter.unusedSimpArgs false
namespace Go.Proofs.Ytjdkeabimcajlaa
open Go.RowKit

def fitR (x : Res) : Bool := decide (0 ≤ x.code ∧ x.code ≤ 255)
def ltR (x y : Res) : Bool := decide (Lib.compareBytes x.act y.act < 0)
/-- Is what stands at place i as it may be? -/
def stepOk (l : List Res) (i : Nat) : Bool := match l[i]? with
  | none => true
  | some x => fitR x && (match i with | 0 => true | j + 1 => match l[j]? with | none => true | some y => ltR y x)
def okTo (l : List Res) (n : Nat) : Bool := (List.range n).all (stepOk l)
def validR (l : List Res) : Bool := decide (l.length ≤ 32) && okTo l l.length
theorem okTo_zero (l : List Res) : okTo l 0 = true := rfl
theorem okTo_succ (l : List Res) (n : Nat) : okTo l (n + 1) = (okTo l n && stepOk l n) := by simp [okTo, List.range_succ]
theorem okTo_no {l : List Res} {n m : Nat} (h : stepOk l n = false) (hm : n < m) : okTo l m = false := by
  rw [okTo, List.all_eq_false]
  exact ⟨n, List.mem_range.2 hm, by simp [h]⟩
theorem step_first {l : List Res} {x : Res} (h : l[0]? = some x) : stepOk l 0 = fitR x := by unfold stepOk; rw [h]; simp
theorem step_next {l : List Res} {j : Nat} {x y : Res} (h : l[j + 1]? = some x) (h' : l[j]? = some y) : stepOk l (j + 1) = (fitR x && ltR y x) := by unfold stepOk; rw [h]; simp only [h']
theorem step_unfit {l : List Res} {i : Nat} {x : Res} (h : l[i]? = some x) (hx : fitR x = false) : stepOk l i = false := by unfold stepOk; rw [h]; simp [hx]
theorem valid_short {l : List Res} (h : ¬ l.length ≤ 32) : validR l = false := by simp [validR, h]
theorem valid_long {l : List Res} (h : l.length ≤ 32) : validR l = okTo l l.length := by simp [validR, h]

theorem Res.code_at (x : Res) : x.cells[64]? = some (.int .i64 x.code) := by
  have h : (bs x.act ++ bs x.root).length = 64 := by rw [List.length_append, bs_length, bs_length, x.la, x.lr]
  unfold Res.cells
  rw [← List.append_assoc, List.getElem?_append_right (by omega), h]; rfl
theorem rangeAt_code {w : World} {b o : Nat} {x : Res} (h : w.rangeAt b o x.cells) : w.cell? ⟨b, o + 64, none⟩ = some (.int .i64 x.code) := h 64 _ x.code_at
theorem rangeAt_act {w : World} {b o : Nat} {x : Res} (h : w.rangeAt b o x.cells) : w.rangeAt b o (bs x.act) := fun j v hv => h j v (by
  unfold Res.cells
  rw [List.getElem?_append_left (List.getElem?_eq_some_iff.1 hv).1]; exact hv)
theorem rangeAt_root {w : World} {b o : Nat} {x : Res} (h : w.rangeAt b o x.cells) : w.rangeAt b (o + 32) (bs x.root) := fun j v hv => by
  have hj := (List.getElem?_eq_some_iff.1 hv).1
  rw [Nat.add_assoc]
  refine h (32 + j) v ?_
  have h32 : (bs x.act).length = 32 := by rw [bs_length, x.la]
  unfold Res.cells
  rw [List.getElem?_append_right (by omega), h32, Nat.add_sub_cancel_left, List.getElem?_append_left hj]; exact hv
theorem rangeAt_of_blk {w : World} {b : Nat} {cs : List Value} {t : TypeId} (h : Blk w b cs.toArray t) : w.rangeAt b 0 cs := fun j v hv => by
  rw [Nat.zero_add]; exact h.cell (by simpa using hv)
theorem hi37 {xs : List UInt8} (h : xs.length = 32) : (Try.prog.info? 37).map (·.size) = some (bs xs).length := by rw [bs_length, h]; rfl
theorem res_all (x : Res) : x.cells.toArray.all (·.oneCell') = true := all_oneCell_toArray x.one

theorem wpList_store_new {P : Program} {ops : Array Oper} {rest : List Oper} {op : Oper} {a : Act} {w : World} {Q : Exit → Act → World → Prop} (hgd : op.guard = none) (ty : TypeId) (x y : Operand) (ho : op.op = .store ty x y)
    (c c' : Array Value) (hx : a.eval x = .pointer (some ⟨w.heap.size, 0, none⟩)) (hy : a.eval y = .agg c')
    (hi : (P.info? ty).map (·.size) = some c'.size) (hz : c.size = c'.size) (h1 : c'.all (·.oneCell') = true)
    (h : wpList P ops Q rest (a.put op.dst undef) (w.alloc (.cells c' ty))) : wpList P ops Q (op :: rest) a (w.alloc (.cells c ty)) :=
  wpList_plain hgd fun _ hK => by
    unfold Oper.wp execOp
    simp only [ho, hx, hy, Sem.run_bind, Sem.run_pure, Result.andThen_ok, run_storeAt_new w ty c c' hi hz h1]
    exact hK _ _ h
theorem wpList_store_last {P : Program} {ops : Array Oper} {rest : List Oper} {op : Oper} {a : Act} {w : World} {Q : Exit → Act → World → Prop} (hgd : op.guard = none) (ty : TypeId) (x y : Operand) (ho : op.op = .store ty x y)
    (b : Nat) (c c' : Array Value) (hx : a.eval x = .pointer (some ⟨b, 0, none⟩)) (hb : b = w.heap.size) (hy : a.eval y = .agg c')
    (hi : (P.info? ty).map (·.size) = some c'.size) (hz : c.size = c'.size) (h1 : c'.all (·.oneCell') = true)
    (h : wpList P ops Q rest (a.put op.dst undef) (w.alloc (.cells c' ty))) : wpList P ops Q (op :: rest) a (w.alloc (.cells c ty)) := by
  subst hb; exact wpList_store_new hgd ty x y ho c c' hx hy hi hz h1 h
section
variable {w w' : World} {S : List Nat} {b g : Nat} {c : Array Value} {t : TypeId}
theorem Blk.setRow (h : Blk w b c t) (c' : Array Value) : Blk (w.setRow b c') b c' t := setRow_heap w b c c' t (0, 0) h
theorem Blk.setRowOther (h : Blk w b c t) (hb : b ≠ g) (c' : Array Value) : Blk (w.setRow g c') b c t := h.of_eq (setRow_other w g b c' (by omega))
theorem Keep.setRow (h : Keep S w w') (hb : g ∈ S ∨ w.heap.size ≤ g) (c' : Array Value) : Keep S w (w'.setRow g c') :=
  h.trans (S := S) (T := [g]) ⟨rfl, rfl, rfl, by simp, fun k _ hk => setRow_other w' g k _ (by simpa using hk)⟩ (by intro x hx; simp only [List.mem_singleton] at hx; subst hx; exact hb)
end
/-- A load whose guard lets it by. -/
theorem wpList_load_mid_w {P : Program} {ops : Array Oper} {rest : List Oper} {op : Oper} {a : Act} {w : World} {Q : Exit → Act → World → Prop} (ty : TypeId) (x : Operand) (ho : op.op = .load ty x) (hw : Region.wanted op (yielded ops a.tmps) = true)
    (b o : Nat) (hx : a.eval x = .pointer (some ⟨b, o, none⟩)) (cs : List Value) (d : TypeDesc) (hc : w.rangeAt b o cs)
    (hu : P.underlying ty = some d) (hd : d.isRow = true) (hi : (P.info? ty).map (·.size) = some cs.length)
    (h : wpList P ops Q rest (a.put op.dst (.agg cs.toArray)) w) : wpList P ops Q (op :: rest) a w := by
  unfold wpList
  rw [if_pos hw]
  exact Or.inl (wp_load_mid ty x ho b o hx cs d hc hu hd hi h)

set_option maxRecDepth 100000 in
theorem fits_any (x : Res) (w : World) : Calls Try.prog 42 #[.agg x.cells.toArray] w fun e w' => e = .returned (.bool (fitR x)) ∧ Keep [] w w' := by
  obtain ⟨p, hp⟩ : ∃ p, w.heap.size = p := ⟨_, rfl⟩
  have B : Blk (w.alloc (.cells x.cells.toArray 39)) p x.cells.toArray 39 := by rw [← hp]; exact Blk.new w _ 39
  have c : (w.alloc (.cells x.cells.toArray 39)).cell? ⟨p, 64, none⟩ = some (.int .i64 x.code) := B.cell (by simpa using x.code_at)
  have k : Keep [] w (w.alloc (.cells x.cells.toArray 39)) := (Keep.refl [] w).alloc _
  obtain ⟨W, hW⟩ : ∃ W, w.alloc (.cells x.cells.toArray 39) = W := ⟨_, rfl⟩
  rw [hW] at c k
  have HF := Lib.hid (show fitR x = decide (0 ≤ x.code ∧ x.code ≤ 255) from rfl)
  obtain ⟨z, hz⟩ : ∃ z, x.code = z := ⟨_, rfl⟩
  rw [hz] at c HF
  clear B hz
  go_enter Try.func42, Try.ntmps42
  by_cases h1 : 0 ≤ z
  · by_cases h2 : z ≤ 255
    · go_wp2_with fail
      go_returns
      exact ⟨by rw [HF.out, decide_eq_true ⟨h1, h2⟩]; rfl, k⟩
    · go_wp2_with fail
      go_returns
      exact ⟨by rw [HF.out, decide_eq_false (by omega)]; rfl, k⟩
  · go_wp2_with fail
    go_returns
    exact ⟨by rw [HF.out, decide_eq_false (by omega)]; rfl, k⟩
end Go.Proofs.Ytjdkeabimcajlaa
